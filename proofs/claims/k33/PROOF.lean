import PyProof.Rows.All
import Wide.All
import OpenK.AllK
import Wide.FinOn
import HandS.ForMost
import HandS.ForExc
import HandS.SetFor
import HandS.TupSets
import KE.SortKeyHeap
import HandS.Conv
import HandS.Lambda
import HandS.Replace
import HandS.IsInst
import HandS.Deep
import HandS.StrMore
import HandS.TupLe
import HandS.RaiseMore
import HandS.TupAny
import HandS.TupMul
import HandS.SortRule
import HandS.SortInts
import PyProof.CollectStr
import KE.SortData
import KE.DatumOrd
import HandS.Style
import HandS.HotCalls
import HandS.ExcIs
import HandS.Flow
import HandS.Zip
import HandS.TryOnly
import PyProof.Rows.CountFlat
import HandS.WordsExc
import HandS.EndBits
import PyProof.ReprLen
import PyProof.StrLawsRepr
import PyProof.StrLawsIn
import PyProof.StrLawsFirst
import PyProof.StrLawsLast
import PyProof.StrLawsChain
import PySem.Challenge.RW_turnletters_k33_runs_that_pass_on
set_option Elab.async false
set_option linter.all false
set_option maxRecDepth 100000
set_option maxHeartbeats 4000000
/-! T00: each once; signs -/
namespace TL
open PySem PySem.Spec L2
set_option autoImplicit false
/-- no table of code objects -/
def _root_.L2.HO.nt (o : HO) : Prop := ∀ ps, o ≠ .tbl ps
theorem nt_lst (xs : List V) : HO.nt (.lst xs) := fun _ z => by cases z
theorem nt_tup (xs : List V) : HO.nt (.tup xs) := fun _ z => by cases z
theorem nt_dK (xs : List (Key × V)) : HO.nt (.dK xs) := fun _ z => by cases z
theorem nt_frz (o : Obj) (u : HO) : HO.nt (.frz o u) := fun _ z => by cases z
/-- each item once, by its first -/
def nubF {α : Type} [DecidableEq α] (l : List α) : List α := l.foldl (fun acc k => if k ∈ acc then acc else acc ++ [k]) []
/-- the signs as texts -/
def sgs (x : Str) : List Str := x.cps.toList.map fun c => ⟨#[c]⟩
end TL
/-! sets made of a text, of a tuple of tuples -/
namespace TL
open PySem PySem.Spec L2 PyProof.Rows
set_option autoImplicit false
/-- a new set, empty -/
abbrev fset (led : Bool) : Obj := { cls := .type "set", dict := none, data := .set #[] 0 (.fresh 0 0 led) }
abbrev fled (w : World) : Bool := !w.params.followText "set-order"
theorem nubF_snoc {α : Type} [DecidableEq α] (l : List α) (k : α) : nubF (l ++ [k]) = if k ∈ nubF l then nubF l else nubF l ++ [k] := by
  unfold nubF
  rw [List.foldl_append]
  rfl
theorem mem_nubF {α : Type} [DecidableEq α] {k : α} : ∀ {l : List α}, k ∈ nubF l ↔ k ∈ l := by
  intro l
  have go : ∀ n (l : List α), l.length = n → (k ∈ nubF l ↔ k ∈ l) := by
    intro n
    induction n with
    | zero =>
      intro l h
      rw [List.length_eq_zero_iff.mp h]
      simp [nubF]
    | succ n ih =>
      intro l h
      obtain ⟨r, a, rfl⟩ : ∃ r a, l = r ++ [a] := ⟨l.dropLast, l.getLast (by intro z; rw [z] at h; cases h), (List.dropLast_concat_getLast _).symm⟩
      have ih := ih r (by simpa using h)
      rw [nubF_snoc]
      split
      · rename_i q
        rw [ih, List.mem_append]
        constructor
        · exact .inl
        · rintro (z | z)
          · exact z
          · simp only [List.mem_cons, List.not_mem_nil, or_false] at z
            subst z
            exact ih.mp q
      · rw [List.mem_append, List.mem_append, ih]
  exact go _ l rfl
theorem nubF_len {α : Type} [DecidableEq α] : ∀ l : List α, (nubF l).length ≤ l.length := by
  intro l
  have go : ∀ (l acc : List α), (l.foldl (fun acc k => if k ∈ acc then acc else acc ++ [k]) acc).length ≤ acc.length + l.length := by
    intro l
    induction l with
    | nil => intro acc; simp
    | cons a l ih =>
      intro acc
      rw [List.foldl_cons]
      refine Nat.le_trans (ih _) ?_
      split <;> simp <;> omega
  have := go l []
  unfold nubF
  simpa using this
section
variable {P : Program} {w : World} {A : Around} {E : Value → Shared → Prop} {s : Shared}
theorem setOf_keep {α : Type} [DecidableEq α] {knd : KeyKind P w α} {h h' : Heap} {a : Addr} {S : α → Bool} {n : Nat} (x : h.SetOf knd a S n) (k : ∀ o, h.get? a = some o → h'.get? a = some o) : h'.SetOf knd a S n := by
  obtain ⟨o, es, ep, t, ho, r⟩ := x
  exact ⟨o, es, ep, t, k o ho, r⟩
/-- the items of a walk go into a set -/
theorem upd_gen {α : Type} [DecidableEq α] {knd : KeyKind P w α} {J : Addr} {fp wr : List Addr} {G : Array GenState → Array GenState → Prop} {n : Nat} {Pv : Nat → Value → Prop} {St : Nat → Shared → Prop} {R : Result → Shared → Prop}
    (W : WalksS P w A.in1 J fp wr G n Pv St) (S : Addr) (nS : S ∉ fp) (ks : List α) (hn : n = ks.length) (hb : ks.length + 1 < scanBound) (hv : ∀ i v, Pv i v → ∃ k, ks[i]? = some k ∧ knd.is k v = true ∧ v.scannable = true) :
    ∀ (c i : Nat) (s : Shared), n - i = c → i ≤ n → St i s → s.heap.SetOf knd S (fun j => decide (j ∈ ks.take i)) (nubF (ks.take i)).length →
      (∀ s', Moved (S :: wr) G s s' → s'.heap.SetOf knd S (fun j => decide (j ∈ ks)) (nubF ks).length → R (.ok (.ret .none)) s') →
      codeAny (model P w) A (.builtin "set.update.loop" ⟨[.ref S, .ref J], []⟩) R s := by
  have nw : S ∉ wr := fun q => nS (W.sub _ q)
  have up : ∀ b ∈ wr, b ∈ S :: wr := fun b q => List.mem_cons_of_mem S q
  intro c
  induction c with
  | zero =>
    intro i s e hi st x q
    obtain rfl : i = n := by omega
    refine codeAny_builtin (F.entry_set_update_loop) ?_
    rw [Around.under_plainId (F.plain_set_update_loop) _]
    show wpAny _ A.in1 (pyNext (.ref J) >>= _) _ _ s
    refine wpAny_bind (W.done s _ _ st fun s1 m => ?_)
    show wpAny _ A.in1 (ret Value.none) _ _ s1
    rw [List.take_of_length_le (by omega)] at x
    exact wpAny_pure (q s1 (m.mono up) (setOf_keep x fun o z => m.heap S o nw z))
  | succ c ih =>
    intro i s e hi st x q
    have il : i < n := by omega
    refine codeAny_builtin (F.entry_set_update_loop) ?_
    rw [Around.under_plainId (F.plain_set_update_loop) _]
    show wpAny _ A.in1 (pyNext (.ref J) >>= _) _ _ s
    refine wpAny_bind (W.item i s _ _ il st fun v s1 pv st1 m => ?_)
    obtain ⟨z, ez, kz, sz⟩ := hv i v pv
    have x1 := setOf_keep (h' := s1.heap) x fun o z => m.heap S o nw z
    show wpAny _ A.in1 (holding [v] (setAdd S v) >>= _) _ _ s1
    refine wpAny_bind (wpAny_holding ?_)
    unfold setAdd
    refine wpAny_holding ?_
    refine wpAny_bind (knd.pyHash (k := z) kz ?_)
    have l1 := nubF_len (ks.take i)
    have l2 : (ks.take i).length ≤ ks.length := by rw [List.length_take]; omega
    refine wpAny_setAddHashed_of (knd := knd) (s := { s1 with toks := s1.toks + 1 }) kz sz x1 (by omega) fun h1 sb x2 => ?_
    have et : ks.take (i + 1) = ks.take i ++ [z] := by rw [List.take_add_one, ez]; rfl
    have x3 : h1.SetOf knd S (fun j => decide (j ∈ ks.take (i + 1))) (nubF (ks.take (i + 1))).length := by
      have e1 : (fun j => decide (j ∈ ks.take i) || decide (j = z)) = fun j => decide (j ∈ ks.take (i + 1)) := by
        funext j
        rw [et]
        simp [List.mem_append]
      have e2 : (if decide (z ∈ ks.take i) = true then (nubF (ks.take i)).length else (nubF (ks.take i)).length + 1) = (nubF (ks.take (i + 1))).length := by
        rw [et, nubF_snoc]
        by_cases hz : z ∈ ks.take i
        · rw [if_pos (decide_eq_true hz), if_pos (mem_nubF.mpr hz)]
        · rw [if_neg (by simpa using hz), if_neg (fun y => hz (mem_nubF.mp y)), List.length_append]
          rfl
      rw [← e1, ← e2]
      exact x2
    refine wpAny_pure ⟨plainId_quiet (F.plain_set_update_loop) _, ih (i + 1) _ (by omega) il (W.frame _ s1 _ _ st1 (Nat.le_succ _) fun b hb' o ho => ?_) x3 fun s2 m2 y => ?_⟩
    · rw [sb.2 b (fun q : b = S => nS (q ▸ hb'))]
      exact ho
    · refine q s2 (Moved.trans W.gtrans ((m.mono up).then_heap (Nat.le_succ _) fun b o q ho => ?_) m2) y
      rw [sb.2 b (fun z : b = S => q (z ▸ List.mem_cons_self))]
      exact ho
/-- what set(x) makes, once the walk of x is known -/
theorem sub_str_set : isSubtype (.type "str") (.type "set") = pure false := by rw [isSubtype_type]; kernel_rfl
theorem sub_str_frz : isSubtype (.type "str") (.type "frozenset") = pure false := by rw [isSubtype_type]; kernel_rfl
theorem call_set_str {x : Str} {t : Tok} {Q : Value → Shared → Prop} (hh : A.handled = none) (hb : x.cps.size + 1 < scanBound)
    (q : ∀ (h' : Heap) (tk : Nat), h'.SetOf (strKind P w) s.heap.objs.size (fun j => decide (j ∈ sgs x)) (nubF (sgs x)).length → (∀ b o, s.heap.get? b = some o → h'.get? b = some o) → Q (.ref s.heap.objs.size) { s with heap := h', toks := tk }) :
    wpAny (model P w) A (call (.type "set") [.str x t]) Q E s := by
  obtain ⟨c, tl, hm0⟩ := (F.called_set).mro
  have hmk := (F.called_set).made
  have hsb := (F.called_set).sub
  refine wpAny_call (codeAny_of_tree ?_)
  show wpAny _ _ (callAny (.type "set") _) _ _ _
  refine wpAny_pure ⟨Code.quiet_builtin _ (by decide +kernel), codeAny_builtin (F.entry_type_call) ?_⟩
  rw [Around.under_plain (weight_type_call_type "set" [.str x t] []) rfl]
  have g1 := (F.called_set).notType
  have g2 := (F.called_set).canCreate
  have g3 := F.typeCall_set_1 (.str x t)
  repeat (any_goals (first | wp_step | assumption))
  refine codeAny_mono (code_set_led1 (.str x t) (E := E) (Q₁ := fun v s1 => v = .ref s.heap.objs.size ∧ s1 = { s with heap := s.heap.push (fset (fled w)) }) ⟨rfl, rfl⟩) fun r s1 hr => ?_
  cases r with
  | error e => exact hr
  | ok fl =>
    cases fl with
    | ret v =>
      obtain ⟨rfl, rfl⟩ := hr
      have hS : (s.heap.push (fset (fled w))).get? s.heap.objs.size = some (fset (fled w)) := Heap.get?_push_size _ rfl
      have hT : Shared.TypeIs { s with heap := s.heap.push (fset (fled w)) } (.ref s.heap.objs.size) "set" := ⟨_, hS, rfl⟩
      have g4 := (F.called_set).init.lookup
      have g5 := (F.called_set).init.bind (.ref s.heap.objs.size)
      repeat (any_goals (first | wp_step | assumption))
      refine codeAny_mono (codeAny_call_builtin (R := wants (fun r s2 => r = .none ∧ ∃ h' tk, s2 = { s with heap := h', toks := tk } ∧ h'.SetOf (strKind P w) s.heap.objs.size (fun j => decide (j ∈ sgs x)) (nubF (sgs x)).length ∧
          (∀ b o, s.heap.get? b = some o → h'.get? b = some o)) E) (F.called_set).init.plain (F.entry_set_init) (check_set_init_1 hT ?_)) fun r2 s2 hr2 => ?_
      · have b1 := sub_str_set
        have b2 := sub_str_frz
        have b3 : (Value.type "str" == Value.type "dict") = false := by decide
        unfold Builtin.«set.__init__» noKeywords Builtin.Frozenset.updateFrom
        generalize hPI : pyIter = PI
        wp_walk
        subst hPI
        refine wpAny_pyIter_str fun o St W st => ?_
        refine wpAny_bind (wpAny_runValue ?_)
        have h3 : A.in1.in1.in1.handled = none := by simp [hh]
        have nS : s.heap.objs.size ∉ [(s.heap.push (fset (fled w))).objs.size] := by
          rw [Heap.size_push]
          simp only [List.mem_cons, List.not_mem_nil, or_false]
          omega
        refine upd_gen (knd := strKind P w) ((W _ h3).toS) s.heap.objs.size nS (sgs x) (by simp [sgs]) (by simpa [sgs] using hb) (fun i v hv => ?_) (x.cps.size - 0) 0 _ (by omega) (Nat.zero_le _) st ?x0 ?x1
        · obtain ⟨c, u, e, rfl⟩ := hv
          refine ⟨⟨#[c]⟩, ?_, by show ((⟨#[c]⟩ : Str) == ⟨#[c]⟩) = true; exact beq_self_eq_true _, rfl⟩
          unfold sgs
          rw [List.getElem?_map, Array.getElem?_toList, e]
          rfl
        case x0 =>
          refine setOf_keep (h := s.heap.push (fset (fled w))) ?_ fun o z => Heap.get?_push_of_some _ z
          exact ⟨_, #[], 0, _, hS, ⟨rfl, rfl, rfl⟩, rfl, (fun e he => by simp at he), (fun k => by simp), (by decide), (by rfl), rfl⟩
        case x1 =>
          intro s' m y
          obtain ⟨h', g', d', tk', os'⟩ := s'
          obtain rfl : g' = s.gens := m.gens
          obtain rfl : d' = s.drawn := m.drawn
          obtain rfl : os' = s.os := m.os
          show wpAny _ _ _ _ _ _
          refine wpAny_pure ?_
          show wpAny _ _ (ret Value.none) _ _ _
          refine wpAny_pure ⟨rfl, h', tk', rfl, y, fun b o e => ?_⟩
          have hb0 : b < s.heap.objs.size := Heap.lt_size e
          refine m.heap b o ?_ (Heap.get?_push_of_some _ (Heap.get?_push_of_some _ e))
          rw [Heap.size_push]
          simp only [List.mem_cons, List.not_mem_nil, or_false, not_or]
          exact ⟨Nat.ne_of_lt hb0, Nat.ne_of_lt (Nat.lt_succ_of_lt hb0)⟩
      · cases r2 with
        | error e => exact hr2
        | ok fl2 =>
          cases fl2 with
          | ret r =>
            obtain ⟨rfl, h', tk, rfl, y, kk⟩ := hr2
            repeat (any_goals (first | wp_step | assumption))
            exact q _ _ y kk
          | _ => exact hr2.elim
    | _ => exact hr.elim
/-- set(x), x a tuple of tuples of ints -/
theorem call_set_tt {l : Addr} {items : Array Value} (ks : List (Addr × List Int)) {Q : Value → Shared → Prop} (hh : A.handled = none) (hl : s.heap.IsTuple l items) (hi : items.toList = ks.map fun p => Value.ref p.1)
    (hk : ∀ p ∈ ks, IsT P w s.heap p.2 p.1) (few : ks.length < 64) (hu : A.units + 3 < cLine)
    (q : ∀ (h' : Heap) (tk : Nat) L es ep t, SetTR P w h' s.heap.objs.size L es ep t → Got ks ks.length L → (∀ b o, s.heap.get? b = some o → h'.get? b = some o) → Q (.ref s.heap.objs.size) { s with heap := h', toks := tk }) :
    wpAny (model P w) A (call (.type "set") [.ref l]) Q E s := by
  have hz : items.size = ks.length := by
    have e := congrArg List.length hi
    rwa [Array.length_toList, List.length_map] at e
  obtain ⟨c, tl, hm0⟩ := (F.called_set).mro
  have hmk := (F.called_set).made
  have hsb := (F.called_set).sub
  refine wpAny_call (codeAny_of_tree ?_)
  show wpAny _ _ (callAny (.type "set") _) _ _ _
  refine wpAny_pure ⟨Code.quiet_builtin _ (by decide +kernel), codeAny_builtin (F.entry_type_call) ?_⟩
  rw [Around.under_plain (weight_type_call_type "set" [.ref l] []) (by rfl)]
  have g1 := (F.called_set).notType
  have g2 := (F.called_set).canCreate
  have g3 := F.typeCall_set_1 (.ref l)
  repeat (any_goals (first | wp_step | assumption))
  refine codeAny_mono (code_set_led1 (.ref l) (E := E) (Q₁ := fun v s1 => v = .ref s.heap.objs.size ∧ s1 = { s with heap := s.heap.push (fset (fled w)) }) ⟨rfl, rfl⟩) fun r s1 hr => ?_
  cases r with
  | error e => exact hr
  | ok fl =>
    cases fl with
    | ret v =>
      obtain ⟨rfl, rfl⟩ := hr
      have hS : (s.heap.push (fset (fled w))).get? s.heap.objs.size = some (fset (fled w)) := Heap.get?_push_size _ rfl
      have hT : Shared.TypeIs { s with heap := s.heap.push (fset (fled w)) } (.ref s.heap.objs.size) "set" := ⟨_, hS, rfl⟩
      have g4 := (F.called_set).init.lookup
      have g5 := (F.called_set).init.bind (.ref s.heap.objs.size)
      repeat (any_goals (first | wp_step | assumption))
      refine codeAny_mono (codeAny_call_builtin (R := wants (fun r s2 => r = .none ∧ ∃ h' tk L es ep t, s2 = { s with heap := h', toks := tk } ∧ SetTR P w h' s.heap.objs.size L es ep t ∧ Got ks ks.length L ∧
          (∀ b o, s.heap.get? b = some o → h'.get? b = some o)) E) (F.called_set).init.plain (F.entry_set_init) (check_set_init_1 hT ?_)) fun r2 s2 hr2 => ?_
      · obtain ⟨ol, hol, hcl, nl, hdl⟩ := hl
        obtain ⟨oc, od, ot, os⟩ := ol
        simp only at hcl hdl
        subst hcl
        subst hdl
        have hol1 : (s.heap.push (fset (fled w))).get? l = some { cls := .type "tuple", dict := od, data := .seq items nl, slots := os } := Heap.get?_push_of_some _ hol
        have b1 := F.sub_tuple_set
        have b2 := F.sub_tuple_frozenset
        have b3 : (Value.type "tuple" == Value.type "dict") = false := by decide
        have hl1 : (s.heap.push (fset (fled w))).IsTuple l items := ⟨_, hol1, rfl, nl, rfl⟩
        unfold Builtin.«set.__init__» noKeywords Builtin.Frozenset.updateFrom
        generalize hPI : pyIter = PI
        wp_walk
        subst hPI
        refine wpAny_pyIter_tuple hl1 ?_
        refine wpAny_bind (wpAny_runValue ?_)
        have lS : l < s.heap.objs.size := Heap.lt_size hol
        have h3 : A.in1.in1.in1.handled = none := by simp [hh]
        have nI : l ≠ (s.heap.push (fset (fled w))).objs.size := by
          rw [Heap.size_push]
          exact Nat.ne_of_lt (Nat.lt_succ_of_lt lS)
        have nS : s.heap.objs.size ∉ [(s.heap.push (fset (fled w))).objs.size, l] := by
          rw [Heap.size_push]
          simp only [List.mem_cons, List.not_mem_nil, or_false, not_or]
          exact ⟨Nat.ne_of_lt (Nat.lt_succ_self _), Nat.ne_of_gt lS⟩
        have vl : ∀ (i : Nat) (v : Value), items[i]? = some v → ∃ p, ks[i]? = some p ∧ v = .ref p.1 := fun i v e => by
          have e' : items.toList[i]? = some v := by rw [Array.getElem?_toList]; exact e
          rw [hi, List.getElem?_map, Option.map_eq_some_iff] at e'
          obtain ⟨p, e1, e2⟩ := e'
          exact ⟨p, e1, e2.symm⟩
        have nil : ∀ b, s.heap.objs.size ≤ b → s.heap.get? b = none := fun b hb => by
          cases z : s.heap.get? b with
          | none => rfl
          | some o => exact absurd (Nat.lt_of_lt_of_le (Heap.lt_size z) hb) (Nat.lt_irrefl _)
        refine set_update_tups ((Walks.tuple h3 _ l nI items).toS) s.heap.objs.size nS ks hz few vl s.heap hk (nil _ (Nat.le_refl _))
          (fun b hb => nil b (by rw [List.mem_singleton.mp hb, Heap.size_push]; exact Nat.le_succ _)) hu (items.size - 0) 0 _ (by omega) (Nat.zero_le _)
          ⟨⟨_, Heap.get?_push_size _ rfl, rfl, rfl⟩, (hl1.push _)⟩ (fun b o e => Heap.get?_push_of_some _ (Heap.get?_push_of_some _ e)) ?x0 ?x1
        case x0 => exact ⟨[], #[], 0, _, setTR_fresh (Heap.get?_push_of_some _ hS), Got.zero ks⟩
        case x1 =>
          intro s' L es ep t m y g kp
          obtain ⟨h', g', d', tk', os'⟩ := s'
          obtain rfl : g' = s.gens := m.gens
          obtain rfl : d' = s.drawn := m.drawn
          obtain rfl : os' = s.os := m.os
          show wpAny _ _ _ _ _ _
          refine wpAny_pure ?_
          show wpAny _ _ (ret Value.none) _ _ _
          rw [hz] at g
          exact wpAny_pure ⟨rfl, h', tk', L, es, ep, t, rfl, y, g, kp⟩
      · cases r2 with
        | error e => exact hr2
        | ok fl2 =>
          cases fl2 with
          | ret r =>
            obtain ⟨rfl, h', tk, L, es, ep, t, rfl, y, g, kk⟩ := hr2
            repeat (any_goals (first | wp_step | assumption))
            exact q _ _ _ _ _ _ y g kk
          | _ => exact hr2.elim
    | _ => exact hr.elim
end
end TL
/-! T9d: sorted(range(n), key=lambda p: x.index(l[p])) -/
namespace TL
open PySem PySem.Spec L2 PyProof.Rows
set_option autoImplicit false
section
variable {P : Program} {w : World} {A : Around} {E : Value → Shared → Prop} {s : Shared}
/-- x.index(l[p]): x is captured, l a global, p a local name -/
theorem lam_body {env : Env} {x l p : Str} {p1 p2 p3 p4 p5 p6 : Pos} {cx : Addr} {wd lt : Str} {t1 t2 t3 : Tok} {i : Int} {c j : Nat} {rest : List Nat} {m mg : Str → Option Value} {Q : Value → Shared → Prop}
    (hk : env.scope.kind = .function) (hx : env.kindOf x = some .free) (hcx : env.cells.lookup x = some cx) (hc : s.heap.IsCell cx (some (.str wd t1))) (hl : env.kindOf l = some .globalImplicit) (hg : s.heap.Ns env.globals mg) (hml : mg l = some (.str lt t2))
    (hp : env.kindOf p = some .local) (hm : s.heap.Ns env.locals m) (hmp : m p = some (.int i t3)) (hz : lt.length ≤ sizeLine) (hi : atI lt.cps.toList i = some c) (ho : Builtin.Str.occurrences wd ⟨#[c]⟩ 0 wd.length 1 = j :: rest)
    (hline : (p2.endLine == p6.line) = true) (d1 : (x == ("__debug__" : Str)) = false) (d2 : (x == ("__classdict__" : Str)) = false) (d3 : (l == ("__debug__" : Str)) = false) (d4 : (p == ("__debug__" : Str)) = false)
    (h : ∀ t tk, Q (.int (j : Nat) t) { s with toks := tk }) : wpAny (model P w) A (eval (.Call (.Attribute (.Name x p1) "index" p2) [.Subscript (.Name l p3) (.Name p p4) p5] [] p6) env) Q E s := by
  refine wpAny_Call_method_late (by rfl) (by rfl) hline rfl (wpAny_Name (wpAny_loadName_free hk hx hcx hc ?_ d2) d1)
  refine ⟨"str", "str.index", PySem.F.plainAttrs_str, PySem.F.slot_str_index, PySem.F.type_str_index, typeIs_str s wd t1, (fun a z => by cases z), ?_⟩
  refine Calls.callWith_builtin (by rfl) (Calls.evalArgs_plain (args_cons (e := .Subscript (.Name l p3) (.Name p p4) p5) (rest := []) ?_ rfl))
  refine Subscript_ (Calls.Name_function_global hk hl (Calls.loadGlobal_global hg hml (wpAny_Name (wpAny_loadName_local hk hp hm hmp ?_) d4)) d3)
  obtain ⟨k, h1, h2, h3, h4, h5⟩ := atI_get hi
  have hll : lt.cps.toList.length = lt.length := by simp [Str.length]
  rw [hll] at h1 h4 h5
  have hn := line63
  refine tail_any (typeIs_str s lt t2) slot_str_getitem.lookup (getItem_str (c := c) (by
    have e1 : decide (i < -(2 ^ 63 : Int)) = false := decide_eq_false (by omega)
    have e2 : decide (i ≥ 2 ^ 63) = false := decide_eq_false (by omega)
    rw [e1, e2, Bool.or_false]) (by rw [h1]; simpa using h2) ?_) (by rfl)
  refine args_nil ?_
  exact PySem.SC.index ho (h _ _)
/-- the lambda called with one argument -/
theorem lam_call {f c' : Addr} {fq p : Str} {params : Arguments} {body : Expr} {scope : Scope} {cl : List (Str × Addr)} {pm ctv v : Value} {k : PyData} (hr : A.depth < recursionLimit) (nl : s.heap.NoLimit) (ho : s.heap.get? f = some (PySem.W.kla_obj "<lambda>" fq params body scope cl pm c' ctv)) (k1 : scope.kind = .function) (k2 : scope.isCoroutine = false) (k3 : scope.isGenerator = false)
    (k4 : ∀ y ∈ scope.names, y.2 ≠ .cell) (k5 : scope.names.lookup p = some .local) (hcd : s.heap.CodeRec (.ref c') fq) (hb : bindArgs (PySem.W.kla_fn "<lambda>" fq params body scope cl pm (.ref c') ctv) ⟨[v], []⟩ = pure [(p, v)])
    (h : ∀ (h₁ : Heap) (tk : Nat), (∀ b o, s.heap.get? b = some o → h₁.get? b = some o) → h₁.Ns s.heap.objs.size (fun y => ([(p, v)] : List (Str × Value)).reverse.lookup y) →
      wpAny (model P w) (A.deeper (PySem.W.envX fq scope s.heap.objs.size f (.ref c') cl)) (eval body (PySem.W.envX fq scope s.heap.objs.size f (.ref c') cl)) (PySem.W.KeyPure k s) (fun _ _ => False) { s with heap := h₁, toks := tk }) :
    wpAny (model P w) A (call (.ref f) [v]) (PySem.W.KeyPure k s) (fun _ _ => False) s := by
  refine wpAny_call (PySem.W.kla_callFunE hr ho rfl k2 k3 rfl hcd ?_)
  rw [hb]
  refine wpAny_pure (wpAny_newFunctionEnv k4 (fun y hy => ?_) (fun h₁ hns hsb => ⟨nl.fresh _ hsb, ?_⟩) k1)
  · rw [List.mem_singleton] at hy
    rw [hy]
    exact k5
  · refine PySem.W.kla_codeExpr (wpAny_mono (h h₁ _ (fun b o e => hsb.extBut b o (Nat.ne_of_lt (Heap.lt_size e)) (Heap.get?_push_of_some _ e)) hns) (fun _ _ q => q) fun e s' q => q.elim)
theorem each_of {α β : Type} {R : α → β → Prop} : ∀ {as : List α} {bs : List β}, as.length = bs.length → (∀ (j : Nat) (a : α) (b : β), as[j]? = some a → bs[j]? = some b → R a b) → PySem.W.EachIs R as bs
  | [], [], _, _ => .nil
  | [], _ :: _, h, _ => by simp at h
  | _ :: _, [], h, _ => by simp at h
  | a :: as, b :: bs, h, f => .cons (f 0 a b rfl rfl) (each_of (by simpa using h) fun j x y h1 h2 => f (j + 1) x y (by simpa using h1) (by simpa using h2))
/-- sorted(range(n), key=f) -/
theorem sorted_rng {r fa : Addr} {n : Nat} {t u v : Tok} (kf : Int → Int) {Q : Value → Shared → Prop} (hh : A.handled = none) (hr : IsRange s.heap r 0 n 1 t u v) (hn : n ≤ 64) (hu : A.units + 100 < cLine)
    (turn : ∀ (i : Int) (tk0 : Tok), 0 ≤ i → i < n → ∀ (h : Heap) (tk : Nat), (∀ b o, s.heap.get? b = some o → h.get? b = some o) → wpAny (model P w) A.in1.in1 (call (.ref fa) [.int i tk0]) (PySem.W.KeyPure (.int (kf i)) { s with heap := h, toks := tk }) (fun _ _ => False) { s with heap := h, toks := tk })
    (h : ∀ (h1 : Heap) (out : List Value) (c : Nat) (h' : Heap) (tk : Nat), (∀ b o, s.heap.get? b = some o → h1.get? b = some o) → (∀ b o, h1.get? b = some o → h'.get? b = some o) → h'.get? h1.objs.size = some (seqObj "list" out.toArray c) → out.length = n →
      PySem.W.EachIs (fun (v : Value) (x : Int) => ∃ t, v = .int x t) out (((List.range n).map fun i : Nat => (i : Int)).mergeSort fun x y => decide (kf x ≤ kf y)) → Q (.ref h1.objs.size) { s with heap := h', toks := tk }) :
    wpAny (model P w) A (call (.builtin "sorted") [.ref r] [(Str.ofString "key", .ref fa)]) Q E s := by
  refine call_function_entry_kw kind_sorted plain_sorted entry_sorted (PyProof.Rows.ksk_s1 _ _) ?_
  unfold Builtin.«sorted»
  refine wpAny_bind (m := checkCount "sorted" 1 1 _) (wpAny_pure ?_)
  refine wpAny_bind (collect_range (A := A.in1) (n := n) hh hr (PySem.small_one (by omega) (by omega) (by omega) (by omega)) (by rw [rangeSize_nat]; simp) (by omega) fun h1 tk1 acc hk1 hacc => ?_)
  have ln : acc.toList.length = n := by rw [Array.length_toList]; exact hacc.1
  refine wpAny_bind (wpAny_newList ?_ (by rw [ln, sizeLine_eq]; omega))
  have eA : PySem.W.EachIs (fun (v : Value) (x : Int) => ∃ t, v = .int x t) acc.toList ((List.range n).map fun i : Nat => (i : Int)) := by
    refine each_of (by rw [ln]; simp) fun j v x hv hx => ?_
    obtain ⟨t, rfl⟩ := hacc.2 j v (by rw [← hv, Array.getElem?_toList])
    rw [List.getElem?_map] at hx
    have hj : j < n := by rw [← ln]; exact (List.getElem?_eq_some_iff.mp hv).1
    rw [List.getElem?_range hj] at hx
    cases hx
    exact ⟨t, by simp⟩
  have old : ∀ b o, s.heap.get? b = some o → b ≠ h1.objs.size := fun b o e => Nat.ne_of_lt (Heap.lt_size (hk1 b o e))
  have up : ∀ {g : Heap}, PySem.W.KeepsBut h1.objs.size (h1.push { cls := .type "list", data := .seq acc.toList.toArray }) g → ∀ b o, s.heap.get? b = some o → g.get? b = some o := fun {g} kp b o e => kp b o (old b o e) (Heap.get?_push_of_some _ (hk1 b o e))
  refine wpAny_bind (wpAny_holding (wpAny_mono (PySem.W.list_sort_key_data (R := fun (v : Value) (x : Int) => ∃ t, v = .int x t) (a := h1.objs.size) (f := .ref fa) (vs := acc.toList) (bs := (List.range n).map fun i : Nat => (i : Int)) (b := false) (Q := fun _ s' => Q (.ref h1.objs.size) s') (fun x : Int => .int (kf x))
    (Heap.get?_push_size _ rfl) eA (fun d hd d' hd' => ?_) (.inr fun d hd => ?_) (by rw [sizeLine_eq]; simp; omega) (fun x _ => ?_) (PyProof.Rows.ksk_l1 _ _) (PyProof.Rows.ksk_t1 _ _) (fun v x hR hx h tk kp => ?_) fun out c h' tk kp hD hlen hE => ?_) (fun v s' q => ?_) fun _ _ e => e))
  · obtain ⟨x, _, rfl⟩ := List.mem_map.mp hd
    obtain ⟨y, _, rfl⟩ := List.mem_map.mp hd'
    rfl
  · obtain ⟨x, _, rfl⟩ := List.mem_map.mp hd
    exact ⟨(fun z => by cases z), (fun xs z => by cases z)⟩
  · show A.units + 1 + 1 + (PyData.int (kf x)).depth < cLine
    have : (PyData.int (kf x)).depth ≤ 1 := by simp [PyData.depth]
    omega
  · obtain ⟨t0, rfl⟩ := hR
    obtain ⟨i, hi, rfl⟩ := List.mem_map.mp hx
    exact turn (i : Int) t0 (by omega) (by have := List.mem_range.mp hi; omega) h tk (up kp)
  · rw [PySem.W.dataLe_int] at hE
    exact h h1 out c h' tk hk1 (fun b o e => kp b o (Nat.ne_of_lt (Heap.lt_size e)) (Heap.get?_push_of_some _ e)) hD (by rw [hlen]; simp) hE
  · exact wpAny_pure ⟨_, rfl, q⟩
end
/-- H1 is H, but for the table at P -/
structure KpT (P : Addr) (H H1 : Hp) : Prop where
  keep : ∀ b o, H b = some o → o.nt → H1 b = some o
  dom : ∀ b, H b ≠ none → H1 b ≠ none
  oth : ∀ a, a ≠ P → ∀ q, LamX.TabS H a q → LamX.TabS H1 a q
section
variable {X : Cx} {pins : List (Addr × Obj)} {σ : L2.St} {H : Hp} {s : Shared}
/-- the lambda is made -/
theorem lam_mk {c P : Addr} {q : Str} {params : Arguments} {body : Expr} {scope : Scope} {pos : Pos} {E Q : Value → Shared → Prop} (I : L2.Inv X pins σ H s) (TB : LamX.TabB X.base X.mg c P) (hcode : X.env.code = .ref c) (hq : X.env.qual ++ "<lambda>" = q)
    (hT : LamX.TabS H P q) (hdef : defaultsOf params X.env = ([], [])) (hfree : ∀ y ∈ scope.names, y.2 = .free → ∃ c, X.env.cells.lookup y.1 = some c)
    (h : ∀ (f c' : Addr) (pm ctv : Value) (H1 : Hp) (s' : Shared), L2.Inv X pins σ H1 s' → KpT P H H1 → LamX.TabS H1 P q → s'.heap.get? f = some (PySem.W.kla_obj "<lambda>" q params body scope (cloFrom X.env.cells scope.names []) pm c' ctv) → s'.heap.CodeRec (.ref c') q → Q (.ref f) s') :
    wpAny (model X.prog X.w) X.A (eval (.Lambda params body scope pos) X.env) Q E s := by
  subst hq
  have hT0 := hT
  obtain ⟨ps, e1, e2, e3⟩ := hT
  have o1 : s.heap.get? P = some (PySem.W.tabObj ps) := I.hok P _ e1
  have ba := TB.bm.keeps I.bk
  refine PySem.W.kla_eval hdef ?_
  cases ha : codeAmong pos ps.toList with
  | some cv =>
    obtain ⟨c', rfl, hc'⟩ := e3 pos cv ha
    refine PySem.W.kla_makeFunctionHit (mg := X.mg) (c := c) (P := P) (ps := ps) (closure_ok hfree) I.ok.glob (I.mod.glob.keeps I.bk) hcode (TB.code.keeps I.bk) o1 e2 ha ba fun ctv g tk up _ => ?_
    have up' : ∀ b o, s.heap.get? b = some o → (g.push (PySem.W.kla_obj "<lambda>" (X.env.qual ++ "<lambda>") params body scope (cloFrom X.env.cells scope.names []) ((X.mg "__name__").getD .none) c' ctv)).get? b = some o := fun b o e => Heap.get?_push_of_some _ (up b o e)
    obtain ⟨⟨oc, vs, t, z1, z2, z3⟩, _⟩ := I.hok c' _ hc'
    exact h _ c' _ ctv H _ (I.kept (t' := tk) up') ⟨fun _ _ e _ => e, fun _ e => e, fun _ _ _ t => t⟩ hT0 (Heap.get?_push_size _ rfl) ⟨c', oc, vs, t, rfl, up' _ _ z1, z2, z3⟩
  | none =>
    refine PySem.W.kla_makeFunction (mg := X.mg) (c := c) (P := P) (ps := ps) (closure_ok hfree) I.ok.glob (I.mod.glob.keeps I.bk) hcode (TB.code.keeps I.bk) o1 e2 ha TB.gP ba fun c' ctv g tk up ge lt rec tb => ?_
    obtain ⟨_, oc, vs, t, ez, z1, z2, z3⟩ := rec
    cases ez
    have nc : H c' = none := I.hok.fresh ge
    have z1' := Heap.get?_push_of_some (PySem.W.kla_obj "<lambda>" (X.env.qual ++ "<lambda>") params body scope (cloFrom X.env.cells scope.names []) ((X.mg "__name__").getD .none) c' ctv) z1
    have I1 := LamX.inv_table (t' := tk) (more := #[PySem.rawInt pos.line, PySem.rawInt pos.col, .ref c']) (h' := g.push (PySem.W.kla_obj "<lambda>" (X.env.qual ++ "<lambda>") params body scope (cloFrom X.env.cells scope.names []) ((X.mg "__name__").getD .none) c' ctv)) I e1
      (fun b o hb e => Heap.get?_push_of_some _ (up b o hb e)) (Heap.get?_push_of_some _ tb) ge ⟨oc, vs, t, z1', z2, z3⟩
    have at_ : ∀ b u, H b = some u → b ≠ P → upd (upd H P (.tbl (ps ++ #[PySem.rawInt pos.line, PySem.rawInt pos.col, .ref c']))) c' (LamX.CodeO c' (X.env.qual ++ "<lambda>")) b = some u := fun b u e n => by
      rw [upd_ne (ne_of_none e nc), upd_ne n]
      exact e
    have nP : ∀ b u, H b = some u → u.nt → b ≠ P := fun b u e n z => by
      rw [z, e1] at e
      exact n ps (Option.some.inj e).symm
    have ct : ∀ b q', (LamX.CodeO b q').nt := fun b q' ps' z => by unfold LamX.CodeO at z; cases z
    refine h _ c' _ ctv _ _ I1 ⟨fun b u e n => at_ b u e (nP b u e n), fun b e => ?_, fun a n q' t' => ?_⟩ ⟨_, by rw [upd_ne (ne_of_none e1 nc), upd_same], ?_, fun p' cv hcv => ?_⟩ (Heap.get?_push_size _ rfl) ⟨c', oc, vs, t, rfl, z1', z2, z3⟩
    · by_cases h1 : b = c'
      · rw [h1, upd_same]; simp
      · by_cases h2 : b = P
        · rw [upd_ne h1, h2, upd_same]; simp
        · rw [upd_ne h1, upd_ne h2]; exact e
    · obtain ⟨ps', a1, a2, a3⟩ := t'
      refine ⟨ps', at_ a _ a1 n, a2, fun pos' cv hcv => ?_⟩
      obtain ⟨c0, f1, f2⟩ := a3 pos' cv hcv
      exact ⟨c0, f1, at_ c0 _ f2 (nP _ _ f2 (ct _ _))⟩
    · rw [Array.toList_append]
      exact PySem.TriplesOk_snoc _ _ _ _ e2
    · rw [Array.toList_append] at hcv
      rcases LamX.among_app _ e2 hcv with z | z
      · obtain ⟨c0, f1, f2⟩ := e3 p' cv z
        exact ⟨c0, f1, at_ c0 _ f2 (nP _ _ f2 (ct _ _))⟩
      · exact ⟨c', z, upd_same⟩
end
end TL
/-! T0: values, the store, what stands for what -/
namespace TL
open PySem PySem.Spec L2
set_option autoImplicit false

abbrev D := PyData
/-- the def that makes a lambda, the lambda's name -/
def lamF : Str := "firsts_of"
def lamQ : Str := lamF ++ ".<locals>." ++ "<lambda>"
theorem tab_put {H : Hp} {p a : Addr} {q : Str} {o : HO} (h : ∀ u, H p = some u → ∃ vs, u = .lst vs) (t : LamX.TabS H a q) : LamX.TabS (upd H p o) a q := by
  obtain ⟨ps, h1, h2, h3⟩ := t
  have ne : ∀ b u, H b = some u → (∀ vs, u ≠ .lst vs) → b ≠ p := fun b u e n z => by
    obtain ⟨vs, hv⟩ := h u (z ▸ e)
    exact n vs hv
  refine ⟨ps, by rw [upd_ne (ne a _ h1 fun vs z => by cases z)]; exact h1, h2, fun pos cv hc => ?_⟩
  obtain ⟨c, e1, e2⟩ := h3 pos cv hc
  exact ⟨c, e1, by rw [upd_ne (ne c _ e2 fun vs z => by unfold LamX.CodeO at z; cases z)]; exact e2⟩
/-- the tables of that def's code -/
def TbOk (K : PySem.W.Frag) (H : Hp) : Prop := ∀ c P, PySem.W.tabIn K lamF = some (c, P) → LamX.TabS H P lamQ
/-- a value: data that no one changes; a handle of the store; a list just made that no one else holds; the script -/
inductive Vl where
  | dt (d : D)
  | hd (n : Nat)
  | fr (xs : List D)
  | scr (ns : List Int)
/-- an entry of the store: a list that may change -/
inductive Ent where
  | lst (xs : List D)
  | hds (ns : List Nat)
abbrev Mu := List (Option Ent)

section
variable (M : Addr → Prop) (H : Hp)
mutual
/-- the value v is the data d; nothing of it stands in M -/
inductive Dm : V → D → Prop
  | non : Dm .non .none
  | bl (b : Bool) : Dm (.bl b) (.bool b)
  | int (i : Int) : Dm (.int i) (.int i)
  | str (x : Str) : Dm (.str x) (.str x)
  | lst {a : Addr} {xs : List V} {ds : List D} : H a = some (.lst xs) → ¬ M a → DmAll xs ds → Dm (.ref a) (.list ds)
  | tup {a : Addr} {xs : List V} {ds : List D} : H a = some (.tup xs) → ¬ M a → DmAll xs ds → Dm (.ref a) (.tuple ds)
  | emp {a : Addr} : H a = some (.dK []) → ¬ M a → Dm (.ref a) (.dict [])
inductive DmAll : List V → List D → Prop
  | nil : DmAll [] []
  | cons {v : V} {vs : List V} {d : D} {ds : List D} : Dm v d → DmAll vs ds → DmAll (v :: vs) (d :: ds)
end
end

section
variable {K : PySem.W.Frag} {M M' : Addr → Prop} {H H' : Hp}
theorem DmAll.length : ∀ {vs : List V} {ds : List D}, DmAll M H vs ds → vs.length = ds.length
  | _, _, .nil => rfl
  | _, _, .cons _ t => by rw [List.length_cons, List.length_cons, DmAll.length t]
theorem DmAll.get : ∀ {vs : List V} {ds : List D} {i : Nat} {d : D}, DmAll M H vs ds → ds[i]? = some d → ∃ v, vs[i]? = some v ∧ Dm M H v d
  | _, _, _, _, .nil, e => by simp at e
  | _, _, 0, _, .cons h _, e => by simp at e; subst e; exact ⟨_, rfl, h⟩
  | _, _, i + 1, d, .cons _ t, e => by
    obtain ⟨v, h1, h2⟩ := DmAll.get (i := i) (d := d) t (by simpa using e)
    exact ⟨v, by simpa using h1, h2⟩
theorem DmAll.getV : ∀ {vs : List V} {ds : List D} {i : Nat} {v : V}, DmAll M H vs ds → vs[i]? = some v → ∃ d, ds[i]? = some d ∧ Dm M H v d
  | _, _, _, _, .nil, e => by simp at e
  | _, _, 0, _, .cons h _, e => by simp at e; subst e; exact ⟨_, rfl, h⟩
  | _, _, i + 1, v, .cons _ t, e => by
    obtain ⟨d, h1, h2⟩ := DmAll.getV (i := i) (v := v) t (by simpa using e)
    exact ⟨d, by simpa using h1, h2⟩
theorem DmAll.append : ∀ {vs ws : List V} {ds es : List D}, DmAll M H vs ds → DmAll M H ws es → DmAll M H (vs ++ ws) (ds ++ es)
  | _, _, _, _, .nil, h => h
  | _, _, _, _, .cons a t, h => .cons a (DmAll.append t h)
theorem DmAll.take : ∀ {vs : List V} {ds : List D} (n : Nat), DmAll M H vs ds → DmAll M H (vs.take n) (ds.take n)
  | _, _, 0, _ => .nil
  | _, _, _ + 1, .nil => .nil
  | _, _, n + 1, .cons a t => .cons a (DmAll.take n t)
theorem DmAll.drop : ∀ {vs : List V} {ds : List D} (n : Nat), DmAll M H vs ds → DmAll M H (vs.drop n) (ds.drop n)
  | _, _, 0, h => h
  | _, _, _ + 1, .nil => .nil
  | _, _, n + 1, .cons _ t => DmAll.drop n t
theorem DmAll.reverse : ∀ {vs : List V} {ds : List D}, DmAll M H vs ds → DmAll M H vs.reverse ds.reverse
  | _, _, .nil => .nil
  | _, _, .cons a t => by
    rw [List.reverse_cons, List.reverse_cons]
    exact (DmAll.reverse t).append (.cons a .nil)
theorem DmAll.set : ∀ {vs : List V} {ds : List D} (i : Nat) {v : V} {d : D}, DmAll M H vs ds → Dm M H v d → DmAll M H (vs.set i v) (ds.set i d)
  | _, _, _, _, _, .nil, _ => .nil
  | _, _, 0, _, _, .cons _ t, h => .cons h t
  | _, _, i + 1, _, _, .cons a t, h => .cons a (DmAll.set i t h)
theorem DmAll.eraseIdx : ∀ {vs : List V} {ds : List D} (i : Nat), DmAll M H vs ds → DmAll M H (vs.eraseIdx i) (ds.eraseIdx i)
  | _, _, _, .nil => .nil
  | _, _, 0, .cons _ t => t
  | _, _, i + 1, .cons a t => .cons a (DmAll.eraseIdx i t)
theorem DmAll.ints : ∀ {vs : List V} {ns : List Int}, DmAll M H vs (ns.map PyData.int) → vs = ns.map V.int
  | _, [], .nil => rfl
  | _, n :: ns, .cons (.int _) t => by rw [DmAll.ints t]; rfl
theorem DmAll.ofInts (M : Addr → Prop) (H : Hp) : ∀ (ns : List Int), DmAll M H (ns.map V.int) (ns.map PyData.int)
  | [] => .nil
  | n :: ns => .cons (.int n) (DmAll.ofInts M H ns)
theorem DmAll.strs : ∀ {vs : List V} {ns : List Str}, DmAll M H vs (ns.map PyData.str) → vs = ns.map V.str
  | _, [], .nil => rfl
  | _, n :: ns, .cons (.str _) t => by rw [DmAll.strs t]; rfl
theorem DmAll.ofStrs (M : Addr → Prop) (H : Hp) : ∀ (ns : List Str), DmAll M H (ns.map V.str) (ns.map PyData.str)
  | [] => .nil
  | n :: ns => .cons (.str n) (DmAll.ofStrs M H ns)
theorem DmAll.bls : ∀ {vs : List V} {ns : List Bool}, DmAll M H vs (ns.map PyData.bool) → vs = ns.map V.bl
  | _, [], .nil => rfl
  | _, n :: ns, .cons (.bl _) t => by rw [DmAll.bls t]; rfl
mutual
/-- the heap may change outside what was tracked ahead of it, or within M; M may change where nothing was tracked -/
theorem Dm.to' (hk : ∀ a o, H a = some o → o.nt → ¬ M a → H' a = some o) (hm : ∀ a, M' a → M a ∨ H a = none) : ∀ {v : V} {d : D}, Dm M H v d → Dm M' H' v d
  | _, _, .non => .non
  | _, _, .bl b => .bl b
  | _, _, .int i => .int i
  | _, _, .str x => .str x
  | _, _, .lst (a := a) h n t => .lst (hk _ _ h (nt_lst _) n) (fun z => (hm a z).elim n fun q => by rw [h] at q; cases q) (DmAll.to' hk hm t)
  | _, _, .tup (a := a) h n t => .tup (hk _ _ h (nt_tup _) n) (fun z => (hm a z).elim n fun q => by rw [h] at q; cases q) (DmAll.to' hk hm t)
  | _, _, .emp (a := a) h n => .emp (hk _ _ h (nt_dK _) n) (fun z => (hm a z).elim n fun q => by rw [h] at q; cases q)
theorem DmAll.to' (hk : ∀ a o, H a = some o → o.nt → ¬ M a → H' a = some o) (hm : ∀ a, M' a → M a ∨ H a = none) : ∀ {vs : List V} {ds : List D}, DmAll M H vs ds → DmAll M' H' vs ds
  | _, _, .nil => .nil
  | _, _, .cons a t => .cons (Dm.to' hk hm a) (DmAll.to' hk hm t)
end
theorem Dm.to (hk : ∀ a o, H a = some o → ¬ M a → H' a = some o) (hm : ∀ a, M' a → M a ∨ H a = none) {v : V} {d : D} (h : Dm M H v d) : Dm M' H' v d := h.to' (fun a o e _ => hk a o e) hm
theorem DmAll.to (hk : ∀ a o, H a = some o → ¬ M a → H' a = some o) (hm : ∀ a, M' a → M a ∨ H a = none) {vs : List V} {ds : List D} (h : DmAll M H vs ds) : DmAll M' H' vs ds := h.to' (fun a o e _ => hk a o e) hm
mutual
theorem Dm.dp : ∀ {v : V} {d : D}, Dm M H v d → d.hasDict = false → Dp K H v d
  | _, _, .non, _ => .non
  | _, _, .bl b, _ => .bl b
  | _, _, .int i, _ => .int i
  | _, _, .str x, _ => .str x
  | _, _, .lst h _ t, e => .lst (.of h) (DmAll.dp t (by simpa only [PyData.hasDict] using e))
  | _, _, .tup h _ t, e => .tup (.of h) (DmAll.dp t (by simpa only [PyData.hasDict] using e))
  | _, _, .emp _ _, e => by simp [PyData.hasDict] at e
theorem DmAll.dp : ∀ {vs : List V} {ds : List D}, DmAll M H vs ds → PyData.hasDictAll ds = false → DpAll K H vs ds
  | _, _, .nil, _ => .nil
  | _, _, .cons a t, e => by
    simp only [PyData.hasDictAll, Bool.or_eq_false_iff] at e
    exact .cons (Dm.dp a e.1) (DmAll.dp t e.2)
end
end

/-- the addresses of what may change: the store's, and P's (which the surroundings keep for themselves) -/
def Mf (P : Addr → Prop) (as : List Addr) (μ : Mu) : Addr → Prop := fun p => P p ∨ ∃ (n : Nat) (e : Ent), as[n]? = some p ∧ μ[n]? = some (some e)

/-- a list of handles at p: where they stand; all of them are older than the list -/
def HdOk (as : List Addr) (μ : Mu) (p : Addr) (ns : List Nat) (ps : List Addr) : Prop :=
  (ns.map fun n => as[n]?) = ps.map some ∧ ∀ (n0 : Nat) (e : Ent), as[n0]? = some p → μ[n0]? = some (some e) → ∀ m ∈ ns, m < n0
section
variable (P : Addr → Prop) (H : Hp) (as : List Addr) (μ : Mu)
def EnOk (p : Addr) : Ent → Prop
  | .lst xs => ∃ vs, H p = some (.lst vs) ∧ DmAll (Mf P as μ) H vs xs
  | .hds ns => ∃ ps : List Addr, H p = some (.lst (ps.map V.ref)) ∧ HdOk as μ p ns ps
/-- the store stands in the heap -/
structure Wd : Prop where
  len : as.length = μ.length
  obj : ∀ (n : Nat) (e : Ent), μ[n]? = some (some e) → ∃ p, as[n]? = some p ∧ ¬ P p ∧ EnOk P H as μ p e
  pt : ∀ a, P a → H a ≠ none
  inj : ∀ (n m : Nat) (p : Addr) (e f : Ent), as[n]? = some p → as[m]? = some p → μ[n]? = some (some e) → μ[m]? = some (some f) → n = m
/-- the script -/
def Scr (K : PySem.W.Frag) (v : V) (ns : List Int) : Prop := ∃ a, v = .ref a ∧ ((∃ o, H a = some (.frz o (.lst (ns.map V.int))) ∧ ¬ Mf P as μ a) ∨
    ∃ (o : Obj) (its : Array Value) (n : Nat), K.lookup a = some o ∧ o.cls = .type "list" ∧ o.dict = none ∧ o.data = .seq its n ∧ its.size ≤ sizeLine ∧ Vals (ns.map V.int) its.toList)
/-- the value v is x (a list just made: it was not there in H0) -/
def VlW (K : PySem.W.Frag) (H0 : Hp) (v : V) : Vl → Prop
  | .dt d => Dm (Mf P as μ) H v d
  | .hd n => ∃ p, as[n]? = some p ∧ v = .ref p
  | .fr xs => ∃ p vs, v = .ref p ∧ H0 p = none ∧ ¬ P p ∧ H p = some (.lst vs) ∧ ¬ Mf P as μ p ∧ DmAll (fun a => Mf P as μ a ∨ a = p) H vs xs
  | .scr ns => Scr P H as μ K v ns
/-- nothing of the store holds p -/
def Sep (p : Addr) : Prop := ∀ (n : Nat) (xs : List D), μ[n]? = some (some (.lst xs)) → ∃ q vs, as[n]? = some q ∧ H q = some (.lst vs) ∧ DmAll (fun a => Mf P as μ a ∨ a = p) H vs xs
/-- .. and a list just made is held by no other -/
def VlOk (K : PySem.W.Frag) (H0 : Hp) (v : V) : Vl → Prop
  | .dt d => Dm (Mf P as μ) H v d
  | .hd n => ∃ p, as[n]? = some p ∧ v = .ref p
  | .fr xs => ∃ p vs, v = .ref p ∧ H0 p = none ∧ ¬ P p ∧ H p = some (.lst vs) ∧ ¬ Mf P as μ p ∧ DmAll (fun a => Mf P as μ a ∨ a = p) H vs xs ∧ Sep P H as μ p
  | .scr ns => Scr P H as μ K v ns
end
/-- a slot holds data or a handle -/
abbrev Ro := List (Option Vl)
def SlOk (K : PySem.W.Frag) (P : Addr → Prop) (H : Hp) (as : List Addr) (μ : Mu) (v : V) : Vl → Prop
  | .dt d => Dm (Mf P as μ) H v d
  | .hd n => ∃ p, as[n]? = some p ∧ v = .ref p
  | .fr _ => False
  | .scr ns => Scr P H as μ K v ns
def RoOk (K : PySem.W.Frag) (P : Addr → Prop) (H : Hp) (as : List Addr) (μ : Mu) (σ : St) (ρ : Ro) : Prop :=
  ρ.length = σ.length ∧ (∀ (i : Nat) (x : Vl), ρ[i]? = some (some x) → ∃ v, σ[i]? = some (some v) ∧ SlOk K P H as μ v x) ∧ TbOk K H

/-- from one state of heap and store to a later one; what stands in Z (its keeper's own) may have changed -/
structure ExZ (Z P : Addr → Prop) (H : Hp) (as : List Addr) (μ : Mu) (H' : Hp) (as' : List Addr) (μ' : Mu) : Prop where
  zp : ∀ a, Z a → P a
  pre : as <+: as'
  dom : ∀ a, H a ≠ none → H' a ≠ none
  keep : ∀ a o, H a = some o → o.nt → (¬ ∃ (n : Nat) (e : Ent), as[n]? = some a ∧ μ[n]? = some (some e)) → ¬ Z a → H' a = some o
  tab : ∀ a, LamX.TabS H a lamQ → LamX.TabS H' a lamQ
  old : ∀ (n : Nat) (e' : Ent), n < as.length → μ'[n]? = some (some e') → ∃ e, μ[n]? = some (some e)
  new : ∀ (n : Nat) (p : Addr), as.length ≤ n → as'[n]? = some p → H p = none ∧ ¬ P p
abbrev Ex (P : Addr → Prop) (H : Hp) (as : List Addr) (μ : Mu) (H' : Hp) (as' : List Addr) (μ' : Mu) : Prop := ExZ (fun _ => False) P H as μ H' as' μ'

section
variable {Z : Addr → Prop} {K : PySem.W.Frag} {P : Addr → Prop} {H H1 H2 : Hp} {as as1 as2 : List Addr} {μ μ1 μ2 : Mu} {σ : St} {ρ : Ro}
theorem pre_get {as as1 : List Addr} (h : as <+: as1) {n : Nat} {p : Addr} (e : as[n]? = some p) : as1[n]? = some p := by
  obtain ⟨t, rfl⟩ := h
  rw [List.getElem?_append_left (List.getElem?_eq_some_iff.mp e).1]
  exact e
theorem pre_get' {as as1 : List Addr} (h : as <+: as1) {n : Nat} {p : Addr} (hn : n < as.length) (e : as1[n]? = some p) : as[n]? = some p := by
  obtain ⟨t, rfl⟩ := h
  rw [List.getElem?_append_left hn] at e
  exact e
theorem hd_get {as : List Addr} {ns : List Nat} {ps : List Addr} (h : (ns.map fun n => as[n]?) = ps.map some) {m : Nat} (hm : m ∈ ns) : ∃ q, as[m]? = some q := by
  have z : as[m]? ∈ ns.map fun n => as[n]? := List.mem_map.mpr ⟨m, hm, Eq.refl _⟩
  rw [h] at z
  obtain ⟨q, _, e⟩ := List.mem_map.mp z
  exact ⟨q, e.symm⟩
theorem HdOk.pre {as as1 : List Addr} {μ μ1 : Mu} {p : Addr} {ns : List Nat} {ps : List Addr} (h : HdOk as μ p ns ps) (pr : as <+: as1) (old : ∀ (n : Nat) (e' : Ent), n < as.length → μ1[n]? = some (some e') → ∃ e, μ[n]? = some (some e)) : HdOk as1 μ1 p ns ps := by
  refine ⟨?_, fun n0 e h1 h2 m hm => ?_⟩
  · rw [← h.1]
    refine List.map_congr_left fun m hm => ?_
    obtain ⟨q, hq⟩ := hd_get h.1 hm
    rw [hq]
    exact pre_get pr hq
  · by_cases hn : n0 < as.length
    · obtain ⟨e0, h0⟩ := old n0 e hn h2
      exact h.2 n0 e0 (pre_get' pr hn h1) h0 m hm
    · obtain ⟨q, hq⟩ := hd_get h.1 hm
      have := (List.getElem?_eq_some_iff.mp hq).1
      omega
theorem HdOk.ex {p : Addr} {ns : List Nat} {ps : List Addr} (h : HdOk as μ p ns ps) (x : ExZ Z P H as μ H1 as1 μ1) : HdOk as1 μ1 p ns ps := h.pre x.pre x.old
/-- what is changeable later was so ahead of it, or was not there -/
theorem ExZ.mf (x : ExZ Z P H as μ H1 as1 μ1) (a : Addr) (h : Mf P as1 μ1 a) : Mf P as μ a ∨ H a = none := by
  rcases h with h | ⟨n, e, h1, h2⟩
  · exact .inl (.inl h)
  · by_cases hn : n < as.length
    · obtain ⟨e0, h0⟩ := x.old n e hn h2
      exact .inl (.inr ⟨n, e0, pre_get' x.pre hn h1, h0⟩)
    · exact .inr (x.new n a (by omega) h1).1
theorem ExZ.kp (x : ExZ Z P H as μ H1 as1 μ1) (a : Addr) (o : HO) (h : H a = some o) (nt : o.nt) (n : ¬ Mf P as μ a) : H1 a = some o := x.keep a o h nt (fun z => n (.inr z)) fun z => n (.inl (x.zp a z))
theorem ExZ.rfl (hz : ∀ a, Z a → P a) : ExZ Z P H as μ H as μ where
  zp := hz
  pre := List.prefix_refl as
  dom := fun _ h => h
  keep := fun _ _ h _ _ _ => h
  tab := fun _ h => h
  old := fun n e _ h => ⟨e, h⟩
  new := fun n p hn e => by
    have := (List.getElem?_eq_some_iff.mp e).1
    omega
theorem Ex.refl : Ex P H as μ H as μ := ExZ.rfl fun _ h => h.elim
theorem ExZ.trans (x : ExZ Z P H as μ H1 as1 μ1) (y : ExZ Z P H1 as1 μ1 H2 as2 μ2) : ExZ Z P H as μ H2 as2 μ2 where
  zp := x.zp
  pre := x.pre.trans y.pre
  dom := fun a h => y.dom a (x.dom a h)
  tab := fun a h => y.tab a (x.tab a h)
  keep := fun a o h nt n nz => by
    refine y.keep a o (x.keep a o h nt n nz) nt (fun ⟨m, e, h1, h2⟩ => ?_) nz
    by_cases hm : m < as.length
    · obtain ⟨e0, h0⟩ := x.old m e hm h2
      exact n ⟨m, e0, pre_get' x.pre hm h1, h0⟩
    · have := (x.new m a (by omega) h1).1
      rw [h] at this; cases this
  old := fun n e hn h => by
    obtain ⟨e1, h1⟩ := y.old n e (Nat.lt_of_lt_of_le hn x.pre.length_le) h
    exact x.old n e1 hn h1
  new := fun n p hn e => by
    by_cases h : n < as1.length
    · exact x.new n p hn (pre_get' y.pre h e)
    · obtain ⟨h1, h2⟩ := y.new n p (by omega) e
      refine ⟨?_, h2⟩
      cases q : H p with
      | none => rfl
      | some o => exact absurd h1 (x.dom p (by rw [q]; simp))
theorem Dm.ex (x : ExZ Z P H as μ H1 as1 μ1) {v : V} {d : D} (h : Dm (Mf P as μ) H v d) : Dm (Mf P as1 μ1) H1 v d := Dm.to' x.kp x.mf h
theorem DmAll.ex (x : ExZ Z P H as μ H1 as1 μ1) {v : List V} {d : List D} (h : DmAll (Mf P as μ) H v d) : DmAll (Mf P as1 μ1) H1 v d := DmAll.to' x.kp x.mf h
theorem Scr.ex (x : ExZ Z P H as μ H1 as1 μ1) {v : V} {ns : List Int} (h : Scr P H as μ K v ns) : Scr P H1 as1 μ1 K v ns := by
  obtain ⟨a, e, h⟩ := h
  refine ⟨a, e, ?_⟩
  rcases h with ⟨o, h, n⟩ | h
  · refine .inl ⟨o, x.kp _ _ h (nt_frz _ _) n, fun z => (x.mf a z).elim n fun q => ?_⟩
    rw [h] at q; cases q
  · exact .inr h
theorem SlOk.ex (x : ExZ Z P H as μ H1 as1 μ1) {v : V} {y : Vl} (h : SlOk K P H as μ v y) : SlOk K P H1 as1 μ1 v y := by
  cases y with
  | dt d => exact Dm.ex x h
  | hd n =>
    obtain ⟨p, e, h⟩ := h
    exact ⟨p, pre_get x.pre e, h⟩
  | fr xs => exact h
  | scr ns => exact Scr.ex x h
theorem RoOk.ex (x : ExZ Z P H as μ H1 as1 μ1) (h : RoOk K P H as μ σ ρ) : RoOk K P H1 as1 μ1 σ ρ := ⟨h.1, fun i y e => by
  obtain ⟨v, h1, h2⟩ := h.2.1 i y e
  exact ⟨v, h1, h2.ex x⟩, fun c P q => x.tab _ (h.2.2 c P q)⟩
/-- a list just made, later -/
theorem VlW.ex {H0 : Hp} (x : ExZ Z P H as μ H1 as1 μ1) {v : V} {y : Vl} (h : VlW P H as μ K H0 v y) : VlW P H1 as1 μ1 K H0 v y := by
  cases y with
  | dt d => exact Dm.ex x h
  | hd n =>
    obtain ⟨p, e, h⟩ := h
    exact ⟨p, pre_get x.pre e, h⟩
  | fr xs =>
    obtain ⟨p, vs, e, h0, hP, hp, hm, ha⟩ := h
    refine ⟨p, vs, e, h0, hP, x.kp p _ hp (nt_lst _) hm, fun z => ?_, DmAll.to' (fun a o q nt n => x.kp a o q nt fun z => n (.inl z)) (fun a z => ?_) ha⟩
    · rcases x.mf p z with z | z
      · exact hm z
      · rw [hp] at z; cases z
    · rcases z with z | z
      · rcases x.mf a z with z | z
        · exact .inl (.inl z)
        · exact .inr z
      · exact .inl (.inr z)
  | scr ns => exact Scr.ex x h
/-- it was not there even further back -/
theorem VlW.back {H0 H00 : Hp} (hd : ∀ a, H00 a ≠ none → H0 a ≠ none) {v : V} {y : Vl} (h : VlW P H as μ K H0 v y) : VlW P H as μ K H00 v y := by
  cases y with
  | dt d => exact h
  | hd n => exact h
  | fr xs =>
    obtain ⟨p, vs, e, h0, r⟩ := h
    refine ⟨p, vs, e, ?_, r⟩
    cases q : H00 p with
    | none => rfl
    | some o => exact absurd h0 (hd p (by rw [q]; simp))
  | scr ns => exact h
/-- it was not there even further back -/
theorem VlOk.back {H0 H00 : Hp} (hd : ∀ a, H00 a ≠ none → H0 a ≠ none) {v : V} {y : Vl} (h : VlOk P H as μ K H0 v y) : VlOk P H as μ K H00 v y := by
  cases y with
  | dt d => exact h
  | hd n => exact h
  | fr xs =>
    obtain ⟨p, vs, e, h0, r⟩ := h
    refine ⟨p, vs, e, ?_, r⟩
    cases q : H00 p with
    | none => rfl
    | some o => exact absurd h0 (hd p (by rw [q]; simp))
  | scr ns => exact h
theorem VlOk.weak {H0 : Hp} {v : V} {y : Vl} (h : VlOk P H as μ K H0 v y) : VlW P H as μ K H0 v y := by
  cases y with
  | dt d => exact h
  | hd n => exact h
  | fr xs =>
    obtain ⟨p, vs, h1, h2, h3, h4, h5, h6, _⟩ := h
    exact ⟨p, vs, h1, h2, h3, h4, h5, h6⟩
  | scr ns => exact h
theorem VlOk.ex {H0 : Hp} (x : ExZ Z P H as μ H1 as1 μ1) {v : V} {y : Vl} (h : VlOk P H as μ K H0 v y) : VlW P H1 as1 μ1 K H0 v y := h.weak.ex x
end


section
variable {Z Z' : Addr → Prop} {P P' : Addr → Prop} {H H1 : Hp} {as as1 : List Addr} {μ μ1 : Mu}
/-- more may have changed -/
theorem ExZ.more (x : ExZ Z P H as μ H1 as1 μ1) (h : ∀ a, Z a → Z' a) (hp : ∀ a, Z' a → P a) : ExZ Z' P H as μ H1 as1 μ1 :=
  ⟨hp, x.pre, x.dom, fun a o e nt n nz => x.keep a o e nt n fun z => nz (h a z), x.tab, x.old, x.new⟩
/-- fewer keepers; what may have changed was not there -/
theorem ExZ.less (x : ExZ Z P H as μ H1 as1 μ1) (hp : ∀ a, P' a → P a) (hz : ∀ a, Z' a → P' a) (h : ∀ a, Z a → Z' a ∨ H a = none) : ExZ Z' P' H as μ H1 as1 μ1 :=
  ⟨hz, x.pre, x.dom, fun a o e nt n nz => x.keep a o e nt n fun z => (h a z).elim nz (fun q => by rw [e] at q; exact absurd q (by simp)), x.tab, x.old, fun n p hn e => ⟨(x.new n p hn e).1, fun q => (x.new n p hn e).2 (hp p q)⟩⟩
end
end TL
/-! T1: the syntax, the evaluator -/
namespace TL
open PySem PySem.Spec L2
set_option autoImplicit false

/-- a built-in function -/
inductive Bi where
  | abs | max | min | int | str | all | any | tuple | list | sorted | sum | divmod | repr | set
  deriving DecidableEq
/-- a method of a built-in type that changes nothing -/
inductive Mt where
  | join | count | index | rfind | split
  deriving DecidableEq
/-- expressions; rows of them by nil, cons -/
inductive E where
  | nil | cons (a es : E)
  | var (i : Nat)
  | frz (i : Nat)
  | cst (d : D)
  | glb (x : Str)
  | bin (op : Operator) (a b : E)
  | neg (a : E) | not (a : E)
  | cmp (op : CmpOp) (a b : E)
  | chn (o1 o2 : CmpOp) (a b c : E)
  | and (es : E) | or (es : E)
  | ife (c a b : E)
  | tup (es : E) | lst (es : E)
  | idx (a i : E)
  | slc (a lo hi : E)
  | rev (a : E)
  | rng (es : E) | zip (a b : E) | enm (a : E) | itv (a : E)
  | lc (ts : List Nat) (it elt : E) | lcf (ts : List Nat) (it cond elt : E)
  | len (a : E)
  | call (f : Str) (es : E)
  | bi (b : Bi) (es : E)
  | isi (a : E) (T : String)
  | mt (m : Mt) (o es : E)
  | app (o e : E) | ext (o e : E) | pop (o : E) | popAt (o i : E)
  | lrg (a : E) | lrg2 (a b : E)
  | lix (a b : E) | upp (a : E) | edt
  | srk (a : E) (i : Nat)
  | mk (a : E) | lset (a : E) | rvs (a lo hi : E)
  | idh (i : Nat) (e : E) | lol (j : Nat) (it : E)
  | sset (a : E) | chn3 (o1 o2 o3 : CmpOp) (a b c d : E)
def E.isIfe : E → Bool
  | .ife _ _ _ => true
  | _ => false
def E.isNil : E → Bool
  | .nil => true
  | _ => false
inductive S where
  | nil | cons (a r : S)
  | asg (m : Bool) (i : Nat) (e : E)
  | unp (ts : List Nat) (e : E)
  | unpL (ts : List Nat) (e : E)
  | six (o i e : E)
  | exp (e : E)
  | ret (e : E) | retN
  | ite (c : E) (a b : S)
  | loop (ts : List Nat) (it : E) (b : S)
  | whl (c : E) (b : S)
  | raise (c : Str) (e : E)
  | swp (o1 i1 o2 i2 e : E)
  | gh (i : Nat) (s : S)
  | tryB (cs : List Str) (i j : Nat) (b : S)
  | pass | brk | cont | dead

inductive Rs (α : Type) where
  | ok (a : α) (μ : Mu)
  | exc (c : Str) (μ : Mu)
  | bad
def Rs.bind {α β : Type} (r : Rs α) (k : α → Mu → Rs β) : Rs β := match r with
  | .ok a μ => k a μ
  | .exc c μ => .exc c μ
  | .bad => .bad
/-- no error leaves -/
def Rs.q {α : Type} (r : Rs α) : Rs α := match r with
  | .exc _ _ => .bad
  | r => r
def Rs.of {α : Type} (o : Option α) (μ : Mu) : Rs α := match o with
  | some a => .ok a μ
  | none => .bad
/-- a statement's end -/
inductive RS where
  | nx (ρ : Ro) (μ : Mu)
  | rt (x : Vl) (μ : Mu)
  | bk (ρ : Ro) (μ : Mu)
  | ct (ρ : Ro) (μ : Mu)
  | exc (c : Str) (μ : Mu)
  | bad

/-- data behind a value -/
def drf (μ : Mu) : Vl → Option D
  | .dt d => some d
  | .hd n => match μ[n]? with
    | some (some (.lst xs)) => some (.list xs)
    | _ => none
  | .fr xs => some (.list xs)
  | .scr _ => none
/-- a value as a slot, an argument bears it -/
def Vl.fz : Vl → Vl
  | .fr xs => .dt (.list xs)
  | x => x
/-- data alone -/
def Vl.data : Vl → Option D
  | .dt d => some d
  | .fr xs => some (.list xs)
  | _ => none

def binF : Operator → D → D → Option Vl
  | .Add, .int i, .int j => some (.dt (.int (i + j)))
  | .Add, .str x, .str y => if x.length + y.length ≤ sizeLine then some (.dt (.str (x ++ y))) else none
  | .Add, .list xs, .list ys => if xs.length + ys.length ≤ sizeLine then some (.fr (xs ++ ys)) else none
  | .Add, .tuple xs, .tuple ys => if xs.length + ys.length ≤ sizeLine then some (.dt (.tuple (xs ++ ys))) else none
  | .Sub, .int i, .int j => some (.dt (.int (i - j)))
  | .Mult, .int i, .int j => if (-(2 ^ 64) < i ∧ i < 2 ^ 64) ∨ (-(2 ^ 64) < j ∧ j < 2 ^ 64) then some (.dt (.int (i * j))) else none
  | .Mult, .str x, .int j => if 0 ≤ j ∧ j ≤ 1000 ∧ x.length ≤ 1000 then some (.dt (.str ⟨(List.replicate j.toNat x.cps.toList).flatten.toArray⟩)) else none
  | .Mult, .list xs, .int j => if -(2 ^ 63) ≤ j ∧ j < 2 ^ 63 ∧ xs.length * j.toNat ≤ sizeLine then some (.fr (List.replicate j.toNat xs).flatten) else none
  | .Mult, .tuple xs, .int j => if 1 ≤ j ∧ j ≤ 1000 ∧ xs.length ≤ 1000 ∧ xs.isEmpty = false then some (.dt (.tuple (List.replicate j.toNat xs).flatten)) else none
  | .FloorDiv, .int i, .int j => if 0 < j ∧ j < 1073741824 then some (.dt (.int (i / j))) else none
  | .Mod, .int i, .int j => if 0 < j then some (.dt (.int (i % j))) else none
  | .Pow, .int i, .int j => if 0 ≤ j ∧ j ≤ 1000000 ∧ i.natAbs < 2 ^ 64 then some (.dt (.int (i ^ j.toNat))) else none
  | _, _, _ => none
/-- ints of a row -/
def intsOf : List D → Option (List Int)
  | [] => some []
  | .int i :: r => (intsOf r).map (i :: ·)
  | _ => none
def strsOf : List D → Option (List Str)
  | [] => some []
  | .str i :: r => (strsOf r).map (i :: ·)
  | _ => none
def blsOf : List D → Option (List Bool)
  | [] => some []
  | .bool i :: r => (blsOf r).map (i :: ·)
  | _ => none
/-- x in text -/
def inStr (x y : Str) : Bool := !(Builtin.Str.occurrences y x 0 y.length 1).isEmpty
def ltS (x y : Str) : Bool := decide (x.cps.toList < y.cps.toList)
/-- texts are held against each other as they are, other data if well formed -/
def okEq : D → D → Bool
  | .str _, .str _ => true
  | a, b => SeqAt.shaped a && SeqAt.shaped b
/-- a tuple of ints is at most another -/
def leqI (ns ms : List Int) : Bool := Ob.lexAt (fun j => decide (ns.getD j 0 = ms.getD j 0)) (fun j => decide (ns.getD j 0 ≤ ms.getD j 0)) (decide (ns.length ≤ ms.length)) 0 (min ns.length ms.length)
def cmpF : CmpOp → D → D → Option Bool
  | .Eq, a, b => if okEq a b = true then some (PyData.eqv a b) else none
  | .NotEq, a, b => if okEq a b = true then some (!PyData.eqv a b) else none
  | .Lt, .int i, .int j => some (decide (i < j))
  | .LtE, .int i, .int j => some (decide (i ≤ j))
  | .Gt, .int i, .int j => some (decide (j < i))
  | .GtE, .int i, .int j => some (decide (j ≤ i))
  | .Lt, .str i, .str j => some (ltS i j)
  | .LtE, .str i, .str j => some (!ltS j i)
  | .Gt, .str i, .str j => some (ltS j i)
  | .GtE, .str i, .str j => some (!ltS i j)
  | .Lt, .tuple xs, .tuple ys => match intsOf xs, intsOf ys with
    | some ns, some ms => some (HT.lexLt ns ms)
    | _, _ => none
  | .LtE, .tuple xs, .tuple ys => match intsOf xs, intsOf ys with
    | some ns, some ms => some (leqI ns ms)
    | _, _ => none
  | .In, .str x, .str y => some (inStr x y)
  | .NotIn, .str x, .str y => some (!inStr x y)
  | .In, a, .list ds => if SeqAt.shaped a && SeqAt.shaped (.list ds) then some (ds.any fun z => PyData.eqv z a) else none
  | .NotIn, a, .list ds => if SeqAt.shaped a && SeqAt.shaped (.list ds) then some (!ds.any fun z => PyData.eqv z a) else none
  | .In, a, .tuple ds => if SeqAt.shaped a && SeqAt.shaped (.list ds) then some (ds.any fun z => PyData.eqv z a) else none
  | .NotIn, a, .tuple ds => if SeqAt.shaped a && SeqAt.shaped (.list ds) then some (!ds.any fun z => PyData.eqv z a) else none
  | .Is, .bool a, .bool b => some (decide (a = b))
  | .IsNot, .bool a, .bool b => some (!decide (a = b))
  | .Is, .none, .none => some true
  | .IsNot, .none, .none => some false
  | .Is, .int _, .none => some false
  | .IsNot, .int _, .none => some true
  | .Is, .str _, .none => some false
  | .IsNot, .str _, .none => some true
  | .Is, .tuple _, .none => some false
  | .IsNot, .tuple _, .none => some true
  | .Is, .list _, .none => some false
  | .IsNot, .list _, .none => some true
  | _, _, _ => none
/-- truth -/
def truD : D → Option Bool
  | .none => some false
  | .bool b => some b
  | .int i => some (i != 0)
  | .str x => if x.length ≤ sizeLine then some (x.length != 0) else none
  | .list xs => some (!xs.isEmpty)
  | .tuple xs => some (!xs.isEmpty)
  | .dict _ => none
/-- of which built-in type -/
def tyD : D → Option String
  | .none => some "NoneType"
  | .bool _ => some "bool"
  | .int _ => some "int"
  | .str _ => some "str"
  | .list _ => some "list"
  | .tuple _ => some "tuple"
  | .dict _ => some "dict"
def isiF (T : String) (d : D) : Option Bool := (tyD d).bind fun t => kitB t T
/-- signs of a text as texts -/
def signs (x : Str) : List D := x.cps.toList.map fun c => .str ⟨#[c]⟩
def itemsD : D → Option (List D)
  | .list xs => some xs
  | .tuple xs => some xs
  | .str x => some (signs x)
  | _ => none
def rangeL (lo : Int) (n : Nat) : List D := (List.range n).map fun k : Nat => PyData.int (lo + (k : Int))
/-- least-first insertion -/
def ins (lt : D → D → Bool) (x : D) : List D → List D
  | [] => [x]
  | y :: r => if lt x y then x :: y :: r else y :: ins lt x r
def isort (lt : D → D → Bool) : List D → List D
  | [] => []
  | x :: r => ins lt x (isort lt r)
def ltD : D → D → Bool
  | .int i, .int j => decide (i < j)
  | .str i, .str j => ltS i j
  | .tuple xs, .tuple ys => match intsOf xs, intsOf ys with
    | some ns, some ms => HT.lexLt ns ms
    | _, _ => false
  | _, _ => false
def insB {α : Type} (le : α → α → Bool) (x : α) : List α → List α
  | [] => [x]
  | y :: r => if le x y then x :: y :: r else y :: insB le x r
def srtB {α : Type} (le : α → α → Bool) : List α → List α
  | [] => []
  | x :: r => insB le x (srtB le r)
def leI (i j : Int) : Bool := decide (i ≤ j)
def leS (x y : Str) : Bool := !ltS y x
def leP (p q : Int × Int) : Bool := decide (p.1 < q.1 ∨ (p.1 = q.1 ∧ p.2 ≤ q.2))
def prD (p : Int × Int) : D := .tuple [.int p.1, .int p.2]
def prsOf : List D → Option (List (Int × Int))
  | [] => some []
  | .tuple [.int i, .int j] :: r => (prsOf r).map ((i, j) :: ·)
  | _ => none
/-- rows of ints -/
def tpsOf : List D → Option (List (List Int))
  | [] => some []
  | .tuple xs :: r => match intsOf xs with
    | some ns => (tpsOf r).map (ns :: ·)
    | none => none
  | _ => none
def leR (a b : List Int) : Bool := decide (a ≤ b)
def rwT (ns : List Int) : D := .tuple (ns.map .int)
def srtF (ds : List D) : Option (List D) := match intsOf ds with
  | some ns => some ((srtB leI ns).map .int)
  | none => match strsOf ds with
    | some xs => if xs.length < 64 then some ((srtB leS xs).map .str) else none
    | none => match prsOf ds with
      | some ps => some ((srtB leP ps).map prD)
      | none => match tpsOf ds with
        | some rs => if (rs.all fun r => !r.isEmpty) = true ∨ rs.length ≤ 1 then some ((srtB leR rs).map rwT) else none
        | none => none
def maxI : List Int → Option Int
  | [] => none
  | x :: r => some (r.foldl max x)
def minI : List Int → Option Int
  | [] => none
  | x :: r => some (r.foldl min x)
def lenF : D → Option Int
  | .str x => if x.length ≤ sizeLine then some x.length else none
  | .list xs => some xs.length
  | .tuple xs => some xs.length
  | _ => none
def biF : Bi → List D → Option Vl
  | .abs, [.int i] => some (.dt (.int (if i < 0 then -i else i)))
  | .max, [.int i, .int j] => some (.dt (.int (if j > i then j else i)))
  | .min, [.int i, .int j] => some (.dt (.int (if j < i then j else i)))
  | .min, [.str x, .str y] => some (.dt (.str (if ltS y x then y else x)))
  | .min, [.list ds] => match strsOf ds with
    | some (x :: r) => some (.dt (.str (r.foldl (fun a y => if ltS y a = true then y else a) x)))
    | _ => none
  | .int, [.int i] => some (.dt (.int i))
  | .int, [.bool b] => some (.dt (.int (if b then 1 else 0)))
  | .int, [.str x] => match PySem.intText? x with
    | some n => if x.length ≤ 640 then some (.dt (.int n)) else none
    | none => none
  | .str, [.int i] => if i.natAbs.log2 < 1920 then some (.dt (.str (toString i))) else none
  | .all, [.list ds] => (blsOf ds).map fun bs => .dt (.bool (bs.all id))
  | .any, [.list ds] => (blsOf ds).map fun bs => .dt (.bool (bs.any id))
  | .tuple, [.list ds] => some (.dt (.tuple ds))
  | .tuple, [.tuple ds] => some (.dt (.tuple ds))
  | .list, [.list ds] => some (.fr ds)
  | .list, [.tuple ds] => some (.fr ds)
  | .list, [.str x] => if x.length ≤ 1000 then some (.fr (signs x)) else none
  | .sorted, [.list ds] => (srtF ds).map .fr
  | .sorted, [.tuple ds] => (intsOf ds).map fun ns => .fr ((srtB leI ns).map .int)
  | .sorted, [.str x] => if x.length < 64 then some (.fr ((srtB leS (sgs x)).map .str)) else none
  | .sum, [.list ds] => (intsOf ds).map fun ns => .dt (.int ns.sum)
  | .divmod, [.int i, .int j] => if 0 < j ∧ j < 1073741824 then some (.dt (.tuple [.int (i / j), .int (i % j)])) else none
  | .repr, [d] => if d.showable ∧ d.depth ≤ 60 ∧ d.shown.length ≤ sizeLine ∧ d.hasDict = false then some (.dt (.str d.shown)) else none
  | _, _ => none
def mtF : Mt → D → List D → Option Vl
  | .join, .str x, [.list ds] => match strsOf ds with
    | some ys => if (ys.map (·.length)).sum + ys.length * x.length ≤ 16777216 then some (.dt (.str (Txt.join x ys))) else none
    | none => none
  | .count, .str a, [.str b] => some (.dt (.int (Txt.count a b)))
  | .rfind, .str a, [.str b] => some (.dt (.int (Txt.rfind a b)))
  | .index, .str a, [.str b] => match Builtin.Str.occurrences a b 0 a.length 1 with
    | i :: _ => some (.dt (.int (i : Nat)))
    | [] => none
  | .split, .str a, [.str b] => if (b.length == 0) = false ∧ a.length + 2 ≤ sizeLine then some (.fr ((Txt.split a b).map .str)) else none
  | _, _, _ => none
/-- the place of an index -/
def idxF : D → D → Option D
  | .list xs, .int i => atI xs i
  | .tuple xs, .int i => atI xs i
  | .str x, .int i => if x.length ≤ sizeLine then (atI x.cps.toList i).map fun c => .str ⟨#[c]⟩ else none
  | _, _ => none
def partI : D → Option (Option Int)
  | .int i => some (some i)
  | _ => none
def cutD (xs : List D) (lo hi : Option Int) : List D := (xs.drop (HT.sIx xs.length 0 lo)).take (HT.sIx xs.length xs.length hi - HT.sIx xs.length 0 lo)
def slcF : D → Option Int → Option Int → Option Vl
  | .list xs, lo, hi => some (.fr (cutD xs lo hi))
  | .tuple xs, lo, hi => some (.dt (.tuple (cutD xs lo hi)))
  | .str x, lo, hi => if x.length ≤ sizeLine then some (.dt (.str (cutS x lo hi))) else none
  | _, _, _ => none
/-- text[i::-1], text[:i:-1] -/
def rvF : D → Option Int → Option Int → Option Vl
  | .str x, some i, none => if x.length ≤ 1000 ∧ 0 ≤ i ∧ i < x.length then some (.dt (.str ⟨(x.cps.toList.take (i.toNat + 1)).reverse.toArray⟩)) else none
  | .str x, none, some i => if x.length ≤ 1000 ∧ 0 ≤ i ∧ i < x.length then some (.dt (.str ⟨(x.cps.toList.drop (i.toNat + 1)).reverse.toArray⟩)) else none
  | _, _, _ => none
def revF : D → Option Vl
  | .list xs => some (.fr xs.reverse)
  | .tuple xs => if xs.isEmpty then none else some (.dt (.tuple xs.reverse))
  | .str x => if x.length ≤ 1000 then some (.dt (.str ⟨x.cps.toList.reverse.toArray⟩)) else none
  | _ => none
/-- the ints of range's arguments -/
def rngF : List D → Option (List D)
  | [.int j] => if -(2 ^ 62) ≤ j ∧ j < 2 ^ 62 then some (rangeL 0 j.toNat) else none
  | [.int i, .int j] => if -(2 ^ 62) ≤ i ∧ i < 2 ^ 62 ∧ -(2 ^ 62) ≤ j ∧ j < 2 ^ 62 then some (rangeL i (j - i).toNat) else none
  | [.int i, .int j, .int k] => if k ≠ 0 ∧ k.natAbs < 1073741824 ∧ Builtin.Range.small i j k = true ∧ 0 ≤ Builtin.Range.rangeSize i j k then some ((List.range (Builtin.Range.rangeSize i j k).toNat).map fun t => .int (i + (t : Nat) * k)) else none
  | _ => none
/-- each int once -/
def nubI : List Int → List Int
  | [] => []
  | a :: l => if a ∈ l then nubI l else a :: nubI l
def inB (p : Int × Int) : Bool := decide (0 ≤ p.1) && decide (p.1 < 64) && decide (0 ≤ p.2) && decide (p.2 < 64)
/-- sorted(set(x)), x a tuple of pairs -/
def stF : D → Option Vl
  | .tuple ds => match prsOf ds with
    | some ps => if ps.length < 64 ∧ ps.all inB = true then some (.fr ((srtB leP (nubF ps)).map prD)) else none
    | none => none
  | _ => none
/-- len(set(x)) -/
def lsF : D → Option Int
  | .str x => if x.length ≤ 1000 then some (nubF (sgs x)).length else none
  | .tuple ds => match intsOf ds with
    | some ns => if ns.length ≤ 1000 then some (nubI ns).length else none
    | none => none
  | _ => none
/-- list(range(i, j)) -/
def lrF (i j : Int) : Option Vl := if -100000 ≤ i ∧ i ≤ 100000 ∧ -100000 ≤ j ∧ j ≤ 100000 then some (.fr (rangeL i (j - i).toNat)) else none
/-- the targets get an item -/
def bindT (ts : List Nat) (d : D) (ρ : Ro) : Option Ro := match ts with
  | [i] => some (ρ.set i (some (.dt d)))
  | _ => match d with
    | .tuple ds => if ds.length = ts.length then some ((ts.zip ds).foldl (fun r p => r.set p.1 (some (.dt p.2))) ρ) else none
    | _ => none

/-- a list comprehension's turns -/
def lcL (ts : List Nat) (c : Option (Ro → Mu → Rs Bool)) (f : Ro → Mu → Rs Vl) (ρ : Ro) : List D → Mu → Rs (List D)
  | [], μ => .ok [] μ
  | d :: r, μ => match bindT ts d ρ with
    | none => .bad
    | some ρ1 => (match c with | none => Rs.ok true μ | some g => g ρ1 μ).bind fun b μ1 =>
      if b then (f ρ1 μ1).bind fun x μ2 => match x.data with
        | none => .bad
        | some y => (lcL ts c f ρ r μ2).bind fun ys μ3 => .ok (y :: ys) μ3
      else lcL ts c f ρ r μ1
/-- the items' row of an iterable -/
def itemsOf (x : Vl) : Option (List D) := x.data.bind itemsD

def datas (μ : Mu) : List Vl → Option (List D)
  | [] => some []
  | x :: r => match drf μ x, datas μ r with
    | some d, some ds => some (d :: ds)
    | _, _ => none
def truV (μ : Mu) (x : Vl) : Option Bool := (drf μ x).bind truD

/-- an item of a list of the store is set -/
def setF (μ : Mu) (x j : Vl) (d : D) : Option Mu := match x, j with
  | .hd n, .dt (.int k) => match μ[n]? with
    | some (some (.lst xs)) => (ixN xs.length k).map fun m => μ.set n (some (.lst (xs.set m d)))
    | _ => none
  | _, _ => none
/-- where a letter first comes -/
def idxK (wd lt : Str) (i : Nat) : Option Nat := match lt.cps.toList[i]? with
  | some c => (Builtin.Str.occurrences wd ⟨#[c]⟩ 0 wd.length 1).head?
  | none => none
def keyK (wd lt : Str) (x : Int) : Int := (((idxK wd lt x.toNat).getD 0 : Nat) : Int)
/-- sorted(range(n), key=lambda p: wd.index(lt[p])) -/
def srkF (n : Int) (wd lt : Str) : Option (List Int) :=
  if 0 ≤ n ∧ n ≤ 64 ∧ lt.length ≤ 1000 ∧ (∀ i, i < n.toNat → (idxK wd lt i).isSome = true) then some (((List.range n.toNat).map fun i : Nat => (i : Int)).mergeSort fun x y => decide (keyK wd lt x ≤ keyK wd lt y)) else none
def srkV (n : Int) (lt : D) (wd : Option (Option Vl)) : Option Vl := match lt, wd with
  | .str lt, some (some (.dt (.str wd))) => (srkF n wd lt).map fun ns => .fr (ns.map .int)
  | _, _ => none
/-- x is a list -/
def isLs (μ : Mu) (x : Vl) : Bool := match drf μ x with
  | some (.list _) => true
  | _ => false
/-- the first place of an equal one -/
def lixF : D → D → Option Int
  | .list ds, d => if SeqAt.shaped (.list ds) && SeqAt.shaped d then (ds.findIdx? fun z => PyData.eqv z d).map fun j : Nat => (j : Int) else none
  | _, _ => none
def uppF : D → Option Str
  | .str z => if z.length ≤ 5592405 then some (Txt.upper z) else none
  | _ => none
/-- empty lists and the list of them -/
def lolM (μ : Mu) (k : Nat) : Mu := μ ++ List.replicate k (some (.lst [])) ++ [some (.hds (List.range' μ.length k))]
/-- a list of the store -/
def isL (μ : Mu) : Vl → Bool
  | .hd n => match μ[n]? with
    | some (some (.lst _)) => true
    | _ => false
  | _ => false
/-- the method's type -/
def Mt.T : Mt → String
  | _ => "str"
def isT (m : Mt) (μ : Mu) (x : Vl) : Bool := match drf μ x with
  | some d => tyD d == some m.T
  | none => false
section
variable (R : Str → Option (List Vl → Mu → Rs Vl)) (γ : Str → Option D)
mutual
def ev : E → Ro → Mu → Rs Vl
  | .var i, ρ, μ => match ρ[i]? with
    | some (some x) => .ok x μ
    | _ => .bad
  | .frz i, ρ, μ => match ρ[i]? with
    | some (some (.hd n)) => match μ[n]? with
      | some (some (.lst xs)) => .ok (.dt (.list xs)) (μ.set n none)
      | _ => .bad
    | _ => .bad
  | .cst d, _, μ => .ok (.dt d) μ
  | .glb x, _, μ => Rs.of ((γ x).map .dt) μ
  | .bin op a b, ρ, μ => (ev a ρ μ).bind fun x μ1 => (ev b ρ μ1).bind fun y μ2 => match drf μ2 x, drf μ2 y with
    | some d, some e => Rs.of (binF op d e) μ2
    | _, _ => .bad
  | .neg a, ρ, μ => (ev a ρ μ).bind fun x μ1 => match x with
    | .dt (.int i) => .ok (.dt (.int (-i))) μ1
    | _ => .bad
  | .not a, ρ, μ => (ev a ρ μ).bind fun x μ1 => Rs.of ((truV μ1 x).map fun b => .dt (.bool (!b))) μ1
  | .cmp op a b, ρ, μ => (ev a ρ μ).bind fun x μ1 => (ev b ρ μ1).bind fun y μ2 => match drf μ2 x, drf μ2 y with
    | some d, some e => Rs.of ((cmpF op d e).map fun b => .dt (.bool b)) μ2
    | _, _ => .bad
  | .chn o1 o2 a b c, ρ, μ => (ev a ρ μ).bind fun x μ1 => (ev b ρ μ1).bind fun y μ2 => match drf μ2 x, drf μ2 y with
    | some d, some e => (Rs.of (cmpF o1 d e) μ2).bind fun k μ2 => if k then (ev c ρ μ2).bind fun z μ3 => match drf μ3 y, drf μ3 z with
        | some e, some f => Rs.of ((cmpF o2 e f).map fun b => .dt (.bool b)) μ3
        | _, _ => .bad
      else .ok (.dt (.bool false)) μ2
    | _, _ => .bad
  | .and es, ρ, μ => evAnd es ρ μ
  | .or es, ρ, μ => evOr es ρ μ
  | .ife c a b, ρ, μ => (ev c ρ μ).bind fun x μ1 => (Rs.of (truV μ1 x) μ1).bind fun k μ1 => if k then ev a ρ μ1 else ev b ρ μ1
  | .tup es, ρ, μ => (evL es ρ μ).bind fun xs μ1 => Rs.of ((datas [] (xs.map Vl.fz)).map fun ds => .dt (.tuple ds)) μ1
  | .lst es, ρ, μ => (evL es ρ μ).bind fun xs μ1 => Rs.of ((datas [] (xs.map Vl.fz)).map fun ds => .fr ds) μ1
  | .idx a i, ρ, μ => (ev a ρ μ).bind fun x μ1 => (ev i ρ μ1).bind fun y μ2 => match x, y with
    | .scr ns, .dt (.int j) => Rs.of ((atI ns j).map fun k => .dt (.int k)) μ2
    | _, _ => match drf μ2 x, drf μ2 y with
      | some d, some e => Rs.of ((idxF d e).map .dt) μ2
      | _, _ => .bad
  | .slc a lo hi, ρ, μ => (ev a ρ μ).bind fun x μ1 => (evP lo ρ μ1).bind fun l μ2 => (evP hi ρ μ2).bind fun h μ3 => match drf μ3 x with
    | some d => Rs.of (slcF d l h) μ3
    | none => .bad
  | .rev a, ρ, μ => (ev a ρ μ).bind fun x μ1 => match drf μ1 x with
    | some d => Rs.of (revF d) μ1
    | none => .bad
  | .lc ts it elt, ρ, μ => (evI it ρ μ).bind fun ds μ1 => if sizeLine < ds.length then .bad else (lcL ts none (fun ρ μ => (ev elt ρ μ).q) ρ ds μ1).bind fun xs μ2 => .ok (.fr xs) μ2
  | .lcf ts it c elt, ρ, μ => (evI it ρ μ).bind fun ds μ1 => if sizeLine < ds.length then .bad else (lcL ts (some fun ρ μ => (if c.isIfe then Rs.bad else (ev c ρ μ).bind fun x μ => Rs.of (truV μ x) μ).q) (fun ρ μ => (ev elt ρ μ).q) ρ ds μ1).bind fun xs μ2 => .ok (.fr xs) μ2
  | .call f es, ρ, μ => match R f with
    | none => .bad
    | some g => (evL es ρ μ).bind fun xs μ1 => g (xs.map Vl.fz) μ1
  | .len a, ρ, μ => (ev a ρ μ).bind fun x μ1 => match x with
    | .scr ns => .ok (.dt (.int ns.length)) μ1
    | _ => match drf μ1 x with
      | some d => Rs.of ((lenF d).map fun n => .dt (.int n)) μ1
      | none => .bad
  | .bi b es, ρ, μ => (evL es ρ μ).bind fun xs μ1 => match datas μ1 xs with
    | some ds => Rs.of (biF b ds) μ1
    | none => .bad
  | .isi a T, ρ, μ => (ev a ρ μ).bind fun x μ1 => match drf μ1 x with
    | some d => Rs.of ((isiF T d).map fun b => .dt (.bool b)) μ1
    | none => .bad
  | .mt m o es, ρ, μ => (ev o ρ μ).bind fun x μ1 => if isT m μ1 x = false then .bad else (evL es ρ μ1).bind fun xs μ2 => match drf μ2 x, datas μ2 xs with
    | some d, some ds => Rs.of (mtF m d ds) μ2
    | _, _ => .bad
  | .app o e, ρ, μ => (ev o ρ μ).bind fun x μ1 => if isL μ1 x = false then .bad else (ev e ρ μ1).bind fun y μ2 => match x, y.data with
    | .hd n, some d => match μ2[n]? with
      | some (some (.lst xs)) => if xs.length < sizeLine then .ok (.dt .none) (μ2.set n (some (.lst (xs ++ [d])))) else .bad
      | _ => .bad
    | _, _ => .bad
  | .ext o e, ρ, μ => (ev o ρ μ).bind fun x μ1 => if isL μ1 x = false then .bad else (ev e ρ μ1).bind fun y μ2 => match x, y.data with
    | .hd n, some (.list ds) => match μ2[n]? with
      | some (some (.lst xs)) => if xs.length + ds.length ≤ sizeLine then .ok (.dt .none) (μ2.set n (some (.lst (xs ++ ds)))) else .bad
      | _ => .bad
    | _, _ => .bad
  | .pop o, ρ, μ => (ev o ρ μ).bind fun x μ1 => match x with
    | .hd n => match μ1[n]? with
      | some (some (.lst xs)) => match xs[xs.length - 1]? with
        | some d => .ok (.dt d) (μ1.set n (some (.lst xs.dropLast)))
        | none => .bad
      | _ => .bad
    | _ => .bad
  | .popAt o i, ρ, μ => (ev o ρ μ).bind fun x μ1 => if isL μ1 x = false then .bad else (ev i ρ μ1).bind fun y μ2 => match x, y with
    | .hd n, .dt (.int j) => match μ2[n]? with
      | some (some (.lst xs)) => if 0 ≤ j ∧ j < 2 ^ 63 then match xs[j.toNat]? with
        | some d => .ok (.dt d) (μ2.set n (some (.lst (xs.eraseIdx j.toNat))))
        | none => .bad
        else .bad
      | _ => .bad
    | _, _ => .bad
  | .rvs a lo hi, ρ, μ => (ev a ρ μ).bind fun x μ1 => (evP lo ρ μ1).bind fun l μ2 => (evP hi ρ μ2).bind fun h μ3 => match drf μ3 x with
    | some d => Rs.of (rvF d l h) μ3
    | none => .bad
  | .lix a b, ρ, μ => (ev a ρ μ).bind fun x μ1 => if isLs μ1 x = false then .bad else (ev b ρ μ1).bind fun y μ2 => match drf μ2 x, drf μ2 y with
    | some d, some e => Rs.of ((lixF d e).map fun n => .dt (.int n)) μ2
    | _, _ => .bad
  | .upp a, ρ, μ => (ev a ρ μ).bind fun x μ1 => match drf μ1 x with
    | some d => Rs.of ((uppF d).map fun z => .dt (.str z)) μ1
    | none => .bad
  | .edt, _, μ => .ok (.dt (.dict [])) μ
  | .srk a i, ρ, μ => (ev a ρ μ).bind fun x μ1 => match x, γ "LETTERS" with
    | .dt (.int n), some lt => Rs.of (srkV n lt ρ[i]?) μ1
    | _, _ => .bad
  | .lset a, ρ, μ => (ev a ρ μ).bind fun x μ1 => match drf μ1 x with
    | some d => Rs.of ((lsF d).map fun n => .dt (.int n)) μ1
    | none => .bad
  | .sset a, ρ, μ => (ev a ρ μ).bind fun x μ1 => match drf μ1 x with
    | some d => Rs.of (stF d) μ1
    | none => .bad
  | .chn3 o1 o2 o3 a b c d, ρ, μ => (ev a ρ μ).bind fun x μ1 => (ev b ρ μ1).bind fun y μ2 => match x, y with
    | .dt (.int i), .dt (.int j) => (Rs.of (cmpF o1 (.int i) (.int j)) μ2).bind fun k μ2 => if k then (ev c ρ μ2).bind fun z μ3 => match z with
        | .dt (.int l) => (Rs.of (cmpF o2 (.int j) (.int l)) μ3).bind fun k2 μ3 => if k2 then (ev d ρ μ3).bind fun u μ4 => match u with
            | .dt (.int m) => Rs.of ((cmpF o3 (.int l) (.int m)).map fun b => .dt (.bool b)) μ4
            | _ => .bad
          else .ok (.dt (.bool false)) μ3
        | _ => .bad
      else .ok (.dt (.bool false)) μ2
    | _, _ => .bad
  | .mk a, ρ, μ => (ev a ρ μ).bind fun x μ1 => match x with
    | .fr xs => .ok (.hd μ1.length) (μ1 ++ [some (.lst xs)])
    | _ => .bad
  | .lrg a, ρ, μ => (ev a ρ μ).bind fun x μ1 => match x with
    | .dt (.int j) => Rs.of (lrF 0 j) μ1
    | _ => .bad
  | .lrg2 a b, ρ, μ => (ev a ρ μ).bind fun x μ1 => (ev b ρ μ1).bind fun y μ2 => match x, y with
    | .dt (.int i), .dt (.int j) => Rs.of (lrF i j) μ2
    | _, _ => .bad
  | .idh i e, ρ, μ => match ρ[i]? with
    | some (some (.hd n)) => (ev e ρ μ).bind fun y μ1 => match y with
      | .dt (.int j) => match μ1[n]? with
        | some (some (.hds ns)) => Rs.of ((atI ns j).map .hd) μ1
        | _ => .bad
      | _ => .bad
    | _ => .bad
  | .lol _ it, ρ, μ => (evI it ρ μ).bind fun ds μ1 => if sizeLine < ds.length then .bad else .ok (.hd (μ1.length + ds.length)) (lolM μ1 ds.length)
  | .nil, _, _ => .bad
  | .cons _ _, _, _ => .bad
  | .rng _, _, _ => .bad
  | .zip _ _, _, _ => .bad
  | .enm _, _, _ => .bad
  | .itv _, _, _ => .bad
def evL : E → Ro → Mu → Rs (List Vl)
  | .nil, _, μ => .ok [] μ
  | .cons a es, ρ, μ => (ev a ρ μ).bind fun x μ1 => (evL es ρ μ1).bind fun xs μ2 => .ok (x :: xs) μ2
  | _, _, _ => .bad
def evP : E → Ro → Mu → Rs (Option Int)
  | .nil, _, μ => .ok none μ
  | .cons e _, ρ, μ => (ev e ρ μ).bind fun x μ1 => match x with
    | .dt (.int i) => .ok (some i) μ1
    | _ => .bad
  | _, _, _ => .bad
def evI : E → Ro → Mu → Rs (List D)
  | .rng es, ρ, μ => (evL es ρ μ).bind fun xs μ1 => match datas [] xs with
    | some ds => Rs.of (rngF ds) μ1
    | none => .bad
  | .zip a b, ρ, μ => (ev a ρ μ).bind fun x μ1 => (ev b ρ μ1).bind fun y μ2 => match x, y with
    | .dt (.tuple ds), .dt (.tuple es) => .ok ((ds.zip es).map fun p => .tuple [p.1, p.2]) μ2
    | _, _ => .bad
  | .enm a, ρ, μ => (ev a ρ μ).bind fun x μ1 => match itemsOf x with
    | some ds => .ok (ds.mapIdx fun i d => .tuple [.int i, d]) μ1
    | _ => .bad
  | .itv e, ρ, μ => (ev e ρ μ).bind fun x μ1 => Rs.of (itemsOf x) μ1
  | _, _, _ => .bad
def evAnd : E → Ro → Mu → Rs Vl
  | .cons a es, ρ, μ => (ev a ρ μ).bind fun x μ1 => if es.isNil then .ok x μ1 else (Rs.of (truV μ1 x) μ1).bind fun k μ1 => if k then evAnd es ρ μ1 else .ok x μ1
  | _, _, _ => .bad
def evOr : E → Ro → Mu → Rs Vl
  | .cons a es, ρ, μ => (ev a ρ μ).bind fun x μ1 => if es.isNil then .ok x μ1 else (Rs.of (truV μ1 x) μ1).bind fun k μ1 => if k then .ok x μ1 else evOr es ρ μ1
  | _, _, _ => .bad
end
end
end TL
/-! T2: statements run, defs run; the syntax held against the row's -/
namespace TL
open PySem PySem.Spec L2
set_option autoImplicit false

def forL (ts : List Nat) (body : Ro → Mu → RS) : List D → Ro → Mu → RS
  | [], ρ, μ => .nx ρ μ
  | d :: r, ρ, μ => match bindT ts d ρ with
    | none => .bad
    | some ρ1 => match body ρ1 μ with
      | .nx ρ2 μ2 => forL ts body r ρ2 μ2
      | .ct ρ2 μ2 => forL ts body r ρ2 μ2
      | .bk ρ2 μ2 => .nx ρ2 μ2
      | .rt x μ2 => .rt x μ2
      | .exc c μ2 => .exc c μ2
      | .bad => .bad
def whlL (c : Ro → Mu → Rs Bool) (body : Ro → Mu → RS) : Nat → Ro → Mu → RS
  | 0, _, _ => .bad
  | n + 1, ρ, μ => match c ρ μ with
    | .ok true μ1 => match body ρ μ1 with
      | .nx ρ2 μ2 => whlL c body n ρ2 μ2
      | .ct ρ2 μ2 => whlL c body n ρ2 μ2
      | .bk ρ2 μ2 => .nx ρ2 μ2
      | .rt x μ2 => .rt x μ2
      | .exc c μ2 => .exc c μ2
      | .bad => .bad
    | .ok false μ1 => .nx ρ μ1
    | .exc c μ1 => .exc c μ1
    | .bad => .bad
def Rs.st {α : Type} (r : Rs α) (k : α → Mu → RS) : RS := match r with
  | .ok a μ => k a μ
  | .exc c μ => .exc c μ
  | .bad => .bad

/-- first a statement, then what follows -/
def seqS (r : RS) (k : Ro → Mu → RS) : RS := match r with
  | .nx ρ1 μ1 => k ρ1 μ1
  | .rt x μ1 => .rt x μ1
  | .bk ρ1 μ1 => .bk ρ1 μ1
  | .ct ρ1 μ1 => .ct ρ1 μ1
  | .exc c μ1 => .exc c μ1
  | .bad => .bad
/-- the classes that an exception is asked for -/
def names8 : List Str := ["NoWeb", "NoWord", "NoPlace", "NoNumber", "NoRun", "TooMany", "NoLine", "NoText"]
/-- an exception of cs is told by its number -/
def catch8 (cs : List Str) (r : RS) : RS := match r with
  | .exc c μ => if cs.contains c && names8.contains c then .rt (.fr [.int ((names8.idxOf c : Nat) : Int)]) μ else .bad
  | .nx ρ1 μ1 => .nx ρ1 μ1
  | .rt x μ1 => .rt x μ1
  | .bk ρ1 μ1 => .bk ρ1 μ1
  | .ct ρ1 μ1 => .ct ρ1 μ1
  | .bad => .bad
/-- what the suites say -/
def marks8 : List Str := ["web", "word", "place", "number", "run", "many", "line", "text"]
/-- an exception of cs is told by its word -/
def catchM (cs : List Str) (r : RS) : RS := match r with
  | .exc c μ => if cs.contains c && names8.contains c then .rt (.dt (.str (marks8.getD (names8.idxOf c) ""))) μ else .bad
  | .nx ρ1 μ1 => .nx ρ1 μ1
  | .rt x μ1 => .rt x μ1
  | .bk ρ1 μ1 => .bk ρ1 μ1
  | .ct ρ1 μ1 => .ct ρ1 μ1
  | .bad => .bad
def E.In (a : E) : E → Prop
  | .cons b r => a = b ∨ E.In a r
  | _ => False
def E.noIfe : E → Bool
  | .cons a r => !a.isIfe && r.noIfe
  | _ => true
section
variable (R : Str → Option (List Vl → Mu → Rs Vl)) (γ : Str → Option D) (F : Nat)
/-- a test -/
def evB (e : E) (ρ : Ro) (μ : Mu) : Rs Bool := if e.isIfe then .bad else (ev R γ e ρ μ).bind fun x μ1 => Rs.of (truV μ1 x) μ1
def exec : S → Ro → Mu → RS
  | .nil, ρ, μ => .nx ρ μ
  | .cons a r, ρ, μ => seqS (exec a ρ μ) (exec r)
  | .asg m i e, ρ, μ => (ev R γ e ρ μ).st fun x μ1 =>
    if m then match x with
      | .fr xs => .nx (ρ.set i (some (.hd μ1.length))) (μ1 ++ [some (.lst xs)])
      | .dt d => .nx (ρ.set i (some (.dt d))) μ1
      | _ => .bad
    else .nx (ρ.set i (some x.fz)) μ1
  | .unp ts e, ρ, μ => (ev R γ e ρ μ).st fun x μ1 => match x with
    | .dt d => match bindT ts d ρ with
      | some ρ1 => .nx ρ1 μ1
      | none => .bad
    | _ => .bad
  | .unpL ts e, ρ, μ => (ev R γ e ρ μ).st fun x μ1 => match x.data with
    | some (.list ds) => match bindT ts (.tuple ds) ρ with
      | some ρ1 => .nx ρ1 μ1
      | none => .bad
    | _ => .bad
  | .six o i e, ρ, μ => (ev R γ e ρ μ).st fun y μ1 => (ev R γ o ρ μ1).st fun x μ2 => (ev R γ i ρ μ2).st fun j μ3 => match y.data with
    | some d => match setF μ3 x j d with
      | some μ4 => .nx ρ μ4
      | none => .bad
    | none => .bad
  | .swp o1 i1 o2 i2 e, ρ, μ => (ev R γ e ρ μ).st fun y μ1 => match y with
    | .dt (.tuple [a, b]) => (ev R γ o1 ρ μ1).st fun x μ2 => (ev R γ i1 ρ μ2).st fun j μ3 => match setF μ3 x j a with
      | some μ4 => (ev R γ o2 ρ μ4).st fun x2 μ5 => (ev R γ i2 ρ μ5).st fun j2 μ6 => match setF μ6 x2 j2 b with
        | some μ7 => .nx ρ μ7
        | none => .bad
      | none => .bad
    | _ => .bad
  | .exp e, ρ, μ => (ev R γ e ρ μ).st fun _ μ1 => .nx ρ μ1
  | .ret e, ρ, μ => (ev R γ e ρ μ).st fun x μ1 => .rt x μ1
  | .retN, _, μ => .rt (.dt .none) μ
  | .ite c a b, ρ, μ => (evB R γ c ρ μ).st fun k μ1 => if k then exec a ρ μ1 else exec b ρ μ1
  | .loop ts it b, ρ, μ => (evI R γ it ρ μ).st fun ds μ1 => forL ts (exec b) ds ρ μ1
  | .whl c b, ρ, μ => whlL (evB R γ c) (exec b) F ρ μ
  | .raise c e, ρ, μ => (ev R γ e ρ μ).st fun _ μ1 => .exc c μ1
  | .gh i a, ρ, μ => match ρ[i]? with
    | some (some (.hd n)) => match μ[n]? with
      | some (some (.lst xs)) => exec a (ρ.set i (some (.dt (.list xs)))) (μ.set n none)
      | _ => .bad
    | _ => exec a ρ μ
  | .tryB cs i j b, ρ, μ => if i = j then catchM cs (exec b ρ μ) else catch8 cs (exec b ρ μ)
  | .dead, _, _ => .bad
  | .pass, ρ, μ => .nx ρ μ
  | .brk, ρ, μ => .bk ρ μ
  | .cont, ρ, μ => .ct ρ μ
end
/-- lists behind handles (not older than b) -/
def lstsOf (μ : Mu) (b : Nat) : List Nat → Option (List D)
  | [] => some []
  | m :: r => if m < b then none else match μ[m]? with
    | some (some (.lst xs)) => (lstsOf μ b r).map (.list xs :: ·)
    | _ => none
/-- what a def hands back; b: how long the store was at its start -/
def finR (b : Nat) : RS → Rs Vl
  | .nx _ μ => .ok (.dt .none) (μ.take b)
  | .rt x μ => match x with
    | .hd n => if n < b then .ok (.hd n) (μ.take b) else match μ[n]? with
      | some (some (.lst xs)) => .ok (.fr xs) (μ.take b)
      | some (some (.hds ns)) => Rs.of ((lstsOf μ b ns).map .fr) (μ.take b)
      | _ => .bad
    | x => .ok x (μ.take b)
  | .exc c μ => .exc c (μ.take b)
  | _ => .bad
structure Fn where
  ps : List Str
  N : List Str
  body : S
def Fn.start (fn : Fn) (xs : List Vl) : Ro := xs.map some ++ List.replicate (fn.N.length - xs.length) none
def run (Δ : Str → Option Fn) (γ : Str → Option D) (F : Nat) : Nat → Str → Option (List Vl → Mu → Rs Vl)
  | 0, _ => none
  | n + 1, f => match Δ f with
    | none => none
    | some fn => some fun xs μ => if xs.length = fn.ps.length then finR μ.length (exec (run Δ γ F n) γ F fn.body (fn.start xs) μ) else .bad

/-! ### the row's syntax -/
structure MC where
  N : List Str
  sc : Scope
  fn : Str → Bool
  xs : List Str
  lam : Bool
def MC.look (c : MC) (x : Str) : Option NameKind := c.sc.names.lookup x
def visB (c : MC) (i : Nat) (x : Str) : Bool := decide (c.N[i]? = some x) && (c.look x == some .local || c.look x == some .cell || c.look x == some .free) && !(x == ("__debug__" : Str)) && !(x == ("__classdict__" : Str))
def glB (c : MC) (x : Str) : Bool := (c.look x == some .globalImplicit) && !(x == ("__debug__" : Str))
def locB (c : MC) (i : Nat) (x : Str) : Bool := decide (c.N[i]? = some x) && (c.look x == some .local || (c.look x == some .cell && c.fn x))
def constM : D → Const → Bool
  | .none, .none => true
  | .bool b, .bool c => b == c
  | .int i, .int j => i == j
  | .str x, .str y => x == y
  | _, _ => false
/-- the targets' names with their places -/
def tgOwn : List Nat → Expr → Option (List (Str × Nat))
  | [i], .Name x _ => some [(x, i)]
  | [i, j], .Tuple [.Name x _, .Name y _] _ _ => some [(x, i), (y, j)]
  | _, _ => none
def matT (c : MC) : List Nat → Expr → Bool
  | [i], .Name x _ => locB c i x
  | [i, j], .Tuple [.Name x _, .Name y _] _ _ => locB c i x && locB c j y && decide (i ≠ j)
  | [i, j, k], .Tuple [.Name x _, .Name y _, .Name z _] _ _ => locB c i x && locB c j y && locB c k z && decide (i ≠ j) && decide (i ≠ k) && decide (j ≠ k)
  | _, _ => false
def Bi.name : Bi → Str
  | .abs => "abs" | .max => "max" | .min => "min" | .int => "int" | .str => "str" | .all => "all" | .any => "any" | .tuple => "tuple" | .list => "list"
  | .sorted => "sorted" | .sum => "sum" | .divmod => "divmod" | .repr => "repr" | .set => "set"
def Mt.name : Mt → Str
  | .join => "join" | .count => "count" | .index => "index" | .rfind => "rfind" | .split => "split"
def isiTypes : List String := ["int", "bool", "str", "tuple", "list", "dict"]
/-- the context of a comprehension's block -/
def MC.blk (c : MC) (scope : Scope) : MC := ⟨c.N, relS scope c.sc, fun x => scope.names.lookup x == some .cell, c.xs, false⟩
def opt1 : List Expr → Option (Option Expr)
  | [] => some none
  | [e] => some (some e)
  | _ => none

/-- the lambda's names: the parameter p, the captured w (at i), the global l -/
def lamB (c : MC) (i : Nat) (w l p : Str) (scope : Scope) : Bool :=
  visB c i w && (c.look w == some .cell) && (scope.names.lookup w == some .free) && (scope.names.lookup l == some .globalImplicit) && (scope.names.lookup p == some .local) && !(l == ("__debug__" : Str)) && !(p == ("__debug__" : Str)) &&
    decide (scope.kind = .function) && !scope.isCoroutine && !scope.isGenerator && scope.names.all fun y => !decide (y.2 = .cell) && (!decide (y.2 = .free) || decide (c.sc.names.lookup y.1 = some .cell))

/-- lambda p: w.index(LETTERS[p]) -/
def lamE (c : MC) (i : Nat) : Expr → Bool
  | .Lambda ⟨[], [⟨p, none, _⟩], none, [], [], none, []⟩ body scope _ => match body with
    | .Call (.Attribute (.Name w _) m pa) [.Subscript (.Name l _) (.Name p2 _) _] [] pc => decide (m = ("index" : Str)) && decide (l = ("LETTERS" : Str)) && decide (p2 = p) && decide (p = ("place" : Str)) && (pa.endLine == pc.line) && lamB c i w l p scope
    | _ => false
  | _ => false

mutual
def mat : MC → E → Expr → Bool
  | c, .var i, e => match e with
    | .Name x _ => visB c i x
    | _ => false
  | c, .frz i, e => match e with
    | .Name x _ => visB c i x
    | _ => false
  | c, .cst d, e => match e with
    | .Constant k _ _ => constM d k
    | _ => false
  | c, .glb x, e => match e with
    | .Name y _ => decide (x = y) && glB c x
    | _ => false
  | c, .bin op a b, e => match e with
    | .BinOp l o r _ => decide (op = o) && mat c a l && mat c b r
    | _ => false
  | c, .neg a, e => match e with
    | .UnaryOp .USub l _ => mat c a l
    | _ => false
  | c, .not a, e => match e with
    | .UnaryOp .Not l _ => mat c a l && !a.isIfe
    | _ => false
  | c, .cmp op a b, e => match e with
    | .Compare l [o] [r] _ => decide (op = o) && mat c a l && mat c b r
    | _ => false
  | c, .chn o1 o2 a b d, e => match e with
    | .Compare l [p1, p2] [r, t] _ => decide (o1 = p1) && decide (o2 = p2) && mat c a l && mat c b r && mat c d t
    | _ => false
  | c, .and es, e => match e with
    | .BoolOp .And l _ => matL c es l && decide (2 ≤ l.length) && es.noIfe
    | _ => false
  | c, .or es, e => match e with
    | .BoolOp .Or l _ => matL c es l && decide (2 ≤ l.length) && es.noIfe
    | _ => false
  | c, .ife t a b, e => match e with
    | .IfExp u l r _ => mat c t u && mat c a l && mat c b r && !t.isIfe
    | _ => false
  | c, .tup es, e => match e with
    | .Tuple l _ _ => matL c es l && decide (l.length ≤ 1000)
    | _ => false
  | c, .lst es, e => match e with
    | .List l _ => matL c es l && decide (l.length ≤ 1000)
    | _ => false
  | c, .idx a i, e => match e with
    | .Subscript l r _ => mat c a l && mat c i r
    | _ => false
  | c, .slc a lo hi, e => match e with
    | .Subscript l (.Slice u v none _) _ => mat c a l && matO c lo u && matO c hi v
    | _ => false
  | c, .rev a, e => match e with
    | .Subscript l (.Slice none none (some (.UnaryOp .USub (.Constant (.int 1) _ _) _)) _) _ => mat c a l
    | _ => false
  | c, .lc ts it elt, e => match e with
    | .ListComp el [⟨tg, iter, [], 0⟩] scope _ => match tgOwn ts tg with
      | some own => blkC c.N c.sc scope own && matT (c.blk scope) ts tg && matI c it iter && mat (c.blk scope) elt el
      | none => false
    | _ => false
  | c, .lcf ts it cond elt, e => match e with
    | .ListComp el [⟨tg, iter, [co], 0⟩] scope _ => match tgOwn ts tg with
      | some own => blkC c.N c.sc scope own && matT (c.blk scope) ts tg && matI c it iter && mat (c.blk scope) cond co && mat (c.blk scope) elt el
      | none => false
    | _ => false
  | c, .len a, e => match e with
    | .Call (.Name f _) [x] [] _ => decide (f = ("len" : Str)) && glB c f && mat c a x
    | _ => false
  | c, .call f es, e => match e with
    | .Call (.Name g _) (x :: r) [] _ => decide (f = g) && glB c f && matL c es (x :: r)
    | _ => false
  | c, .bi b es, e => match e with
    | .Call (.Name f _) (x :: r) [] _ => decide (f = b.name) && glB c f && matL c es (x :: r)
    | _ => false
  | c, .isi a T, e => match e with
    | .Call (.Name f _) [x, .Name t _] [] _ => decide (f = ("isinstance" : Str)) && glB c f && mat c a x && decide (t = Str.ofString T) && glB c t && decide (T ∈ isiTypes)
    | _ => false
  | c, .mt m o es, e => match e with
    | .Call (.Attribute l f p) (x :: r) [] q => decide (f = m.name) && mat c o l && matL c es (x :: r) && decide (r.length < 20) && (p.endLine == q.line)
    | _ => false
  | c, .app o a, e => match e with
    | .Call (.Attribute l f p) [x] [] q => decide (f = ("append" : Str)) && mat c o l && mat c a x && (p.endLine == q.line)
    | _ => false
  | c, .ext o a, e => match e with
    | .Call (.Attribute l f p) [x] [] q => decide (f = ("extend" : Str)) && mat c o l && mat c a x && (p.endLine == q.line)
    | _ => false
  | c, .pop o, e => match e with
    | .Call (.Attribute l f p) [] [] q => decide (f = ("pop" : Str)) && mat c o l && (p.endLine == q.line)
    | _ => false
  | c, .popAt o a, e => match e with
    | .Call (.Attribute l f p) [x] [] q => decide (f = ("pop" : Str)) && mat c o l && mat c a x && (p.endLine == q.line)
    | _ => false
  | c, .rvs a lo hi, e => match e with
    | .Subscript l (.Slice u v (some (.UnaryOp .USub (.Constant (.int 1) _ _) _)) _) _ => mat c a l && matO c lo u && matO c hi v
    | _ => false
  | c, .sset a, e => match e with
    | .Call (.Name f _) [.Call (.Name g _) [x] [] _] [] _ => decide (f = ("sorted" : Str)) && glB c f && decide (g = ("set" : Str)) && glB c g && mat c a x
    | _ => false
  | c, .chn3 o1 o2 o3 a b d d2, e => match e with
    | .Compare l [p1, p2, p3] [r, t, u] _ => decide (o1 = p1) && decide (o2 = p2) && decide (o3 = p3) && mat c a l && mat c b r && mat c d t && mat c d2 u
    | _ => false
  | c, .lix a b, e => match e with
    | .Call (.Attribute l n p) [x] [] q => decide (n = ("index" : Str)) && mat c a l && mat c b x && (p.endLine == q.line)
    | _ => false
  | c, .upp a, e => match e with
    | .Call (.Attribute l n p) [] [] q => decide (n = ("upper" : Str)) && mat c a l && (p.endLine == q.line)
    | _ => false
  | c, .srk a i, e => match e with
    | .Call (.Name f _) [.Call (.Name g _) [x] [] _] [kw] _ => decide (f = ("sorted" : Str)) && glB c f && decide (g = ("range" : Str)) && glB c g && mat c a x && decide (kw.arg = some ("key" : Str)) && c.lam && lamE c i kw.value
    | _ => false
  | c, .edt, e => match e with
    | .Dict [] [] _ => true
    | _ => false
  | c, .lset a, e => match e with
    | .Call (.Name f _) [.Call (.Name g _) [x] [] _] [] _ => decide (f = ("len" : Str)) && glB c f && decide (g = ("set" : Str)) && glB c g && mat c a x
    | _ => false
  | c, .mk a, e => match e with
    | .Call (.Name f p) (x :: r) [] q => mat c a (.Call (.Name f p) (x :: r) [] q)
    | _ => false
  | c, .lrg a, e => match e with
    | .Call (.Name f _) [.Call (.Name g _) [x] [] _] [] _ => decide (f = ("list" : Str)) && glB c f && decide (g = ("range" : Str)) && glB c g && mat c a x
    | _ => false
  | c, .lrg2 a b, e => match e with
    | .Call (.Name f _) [.Call (.Name g _) [x, y] [] _] [] _ => decide (f = ("list" : Str)) && glB c f && decide (g = ("range" : Str)) && glB c g && mat c a x && mat c b y
    | _ => false
  | c, .idh i a, e => match e with
    | .Subscript (.Name x _) r _ => visB c i x && mat c a r
    | _ => false
  | c, .lol j it, e => match e with
    | .ListComp (.List [] _) [⟨tg, iter, [], 0⟩] scope _ => match tgOwn [j] tg with
      | some own => blkC c.N c.sc scope own && matT (c.blk scope) [j] tg && matI c it iter
      | none => false
    | _ => false
  | _, .nil, _ => false
  | _, .cons _ _, _ => false
  | _, .rng _, _ => false
  | _, .zip _ _, _ => false
  | _, .enm _, _ => false
  | _, .itv _, _ => false
def matL : MC → E → List Expr → Bool
  | _, .nil, l => l.isEmpty
  | c, .cons a es, l => match l with
    | x :: r => mat c a x && matL c es r
    | [] => false
  | _, _, _ => false
def matO : MC → E → Option Expr → Bool
  | _, .nil, o => o.isNone
  | c, .cons e es, o => match o with
    | some x => mat c e x && es.isNil
    | none => false
  | _, _, _ => false
def matI : MC → E → Expr → Bool
  | c, .rng es, e => match e with
    | .Call (.Name f _) (x :: r) [] _ => decide (f = ("range" : Str)) && glB c f && matL c es (x :: r) && decide (r.length ≤ 2)
    | _ => false
  | c, .itv a, e => mat c a e
  | _, _, _ => false
end
/-- zip(a, b) -/
def matZ : MC → E → Expr → Bool
  | c, .zip a b, e => match e with
    | .Call (.Name f _) [x, y] [] _ => decide (f = ("zip" : Str)) && glB c f && mat c a x && mat c b y
    | _ => false
  | _, _, _ => false
def isTupE : Expr → Bool
  | .Tuple .. => true
  | _ => false
/-- is it a comprehension -/
def isLc : Expr → Bool
  | .ListComp .. => true
  | _ => false
/-- are stores swapped: none: not said -/
def ssF (c : MC) (ts vs : List Expr) : Option (Option (List Str)) :=
  if (!(ts.length == 2 || ts.length == 3) || vs.length != ts.length) = true then some none else
  if (vs.any fun | .Starred .. => true | _ => false) = true then some none else
  let names := ts.filterMap fun
    | .Name id pos => if c.look id == some .local && pos.line == (ts.head?.map (·.pos.line)).getD 0 then some id else none
    | _ => none
  if (names.length != ts.length || names.eraseDups.length != names.length) = true then some none else
  if vs.all (foldedForSure 8) = true then some none else
  if vs.all (constantsAlone 8) = true then none else some (some names)
/-- no stores are swapped -/
def swNo (c : MC) (tg v : Expr) : Bool := match tg, v with
  | .Tuple ts _ _, .Tuple vs _ _ => ssF c ts vs == some none
  | _, _ => true
/-- two, three stores are swapped -/
def swYes (c : MC) (tg v : Expr) : Bool := match tg, v with
  | .Tuple [.Name x p, .Name y q] _ _, .Tuple [a, b] _ _ => (c.look x == some .local) && (c.look y == some .local) && ssF c [.Name x p, .Name y q] [a, b] == some (some [x, y])
  | .Tuple [.Name x p, .Name y q, .Name z r] _ _, .Tuple [a, b, d] _ _ => (c.look x == some .local) && (c.look y == some .local) && (c.look z == some .local) && ssF c [.Name x p, .Name y q, .Name z r] [a, b, d] == some (some [x, y, z])
  | _, _ => false
def matS : MC → S → Stmt → Bool
  | c, .asg _ i e, s => match s with
    | .Assign [.Name x p] v _ => locB c i x && mat c e v && (!isLc v || (c.look x == some .cell) || (match v with
      | .ListComp _ _ scope q => p.line == q.line && !(scope.names.any fun (n, k) => n == x && (k == .local || k == .cell))
      | _ => false))
    | _ => false
  | c, .unp ts e, s => match s with
    | .Assign [tg] v _ => matT c ts tg && mat c e v && !isLc v && (swNo c tg v || swYes c tg v)
    | _ => false
  | c, .unpL ts e, s => match s with
    | .Assign [tg] v _ => matT c ts tg && decide (ts.length = 3) && mat c e v && !isLc v && swNo c tg v
    | _ => false
  | c, .six o i e, s => match s with
    | .Assign [.Subscript l r _] v _ => mat c o l && mat c i r && mat c e v
    | _ => false
  | c, .swp o1 i1 o2 i2 e, s => match s with
    | .Assign [.Tuple [.Subscript l r _, .Subscript l2 r2 _] _ _] v _ => mat c o1 l && mat c i1 r && mat c o2 l2 && mat c i2 r2 && mat c e v && !isLc v
    | _ => false
  | c, .exp e, s => match s with
    | .Expr v _ => mat c e v && !isLc v
    | _ => false
  | c, .ret e, s => match s with
    | .Return (some v) _ => mat c e v
    | _ => false
  | c, .retN, s => match s with
    | .Return none _ => true
    | _ => false
  | c, .raise x e, s => match s with
    | .Raise (some (.Call (.Name y _) [a] [] _)) none _ => decide (x = y) && glB c y && mat c e a && decide (x ∈ c.xs)
    | _ => false
  | _, .pass, s => match s with
    | .Pass _ => true
    | _ => false
  | _, .brk, s => match s with
    | .Break _ => true
    | _ => false
  | _, .cont, s => match s with
    | .Continue _ => true
    | _ => false
  | _, _, _ => false
/-- the suite: the numbers of the classes of which the exception n is -/
def sufB (c : MC) (i j : Nat) (n : Str) : Expr → Bool
  | .ListComp (.Name p1 _) [⟨.Name p2 _, .Call (.Name r _) [.Constant (.int 8) _ _] [] _, [.Call (.Name f _) [.Name n1 _, .Name p3 _] [] _], 0⟩] scope _ =>
    decide (p1 = p2) && decide (p3 = p2) && decide (n1 = n) && decide (r = "range") && decide (f = "_law_only") && glB c "range" && blkC c.N c.sc scope [(p2, j)] && locB (c.blk scope) j p2 && visB (c.blk scope) j p2 && visB (c.blk scope) i n && glB (c.blk scope) "_law_only" && decide (i ≠ j)
  | _ => false
/-- the suite: the word for the exception n -/
def sufM (c : MC) (i : Nat) (n : Str) : Expr → Bool
  | .Call (.Name f _) [.Name n1 _] [] _ => decide (n1 = n) && decide (f = "_law_marks") && glB c "_law_marks" && visB c i n
  | _ => false
/-- which of the two ways a program has (by the order of its names) -/
def fmA (xs : List Str) : Bool := xs.head? == some "TurnError"
mutual
def matS1 : MC → S → Stmt → Bool
  | c, .ite t a b, s => match s with
    | .If u l r _ => mat c t u && matSs c a l && matSs c b r
    | _ => false
  | c, .loop ts it b, s => match s with
    | .For tg iter l [] _ => matT c ts tg && (matI c it iter || (isTupE tg && matZ c it iter)) && matSs c b l
    | _ => false
  | c, .whl t b, s => match s with
    | .While u l [] _ => mat c t u && matSs c b l
    | _ => false
  | c, .gh _ a, s => matS1 c a s
  | c, .tryB cs i j b, s => match s with
    | .Try body [.ExceptHandler (some (.Name x _)) (some n) [.Return (some e) _] _] [] [] _ => decide (x = "TurnError") && matSs c b body && (cs.all fun y => c.xs.contains y) && c.xs.contains "TurnError" && glB c "TurnError" && decide (c.N[i]? = some n) && (if i = j then fmA c.xs && (c.look n == some .local) && sufM c i n e else !fmA c.xs && (c.look n == some .cell && c.fn n) && sufB c i j n e)
    | _ => false
  | _, .dead, _ => true
  | c, .asg m i e, s => matS c (.asg m i e) s
  | c, .unp ts e, s => matS c (.unp ts e) s
  | c, .unpL ts e, s => matS c (.unpL ts e) s
  | c, .six o i e, s => matS c (.six o i e) s
  | c, .exp e, s => matS c (.exp e) s
  | c, .ret e, s => matS c (.ret e) s
  | c, .retN, s => matS c .retN s
  | c, .raise x m, s => matS c (.raise x m) s
  | c, .swp a b d e f, s => matS c (.swp a b d e f) s
  | c, .pass, s => matS c .pass s
  | c, .brk, s => matS c .brk s
  | c, .cont, s => matS c .cont s
  | _, .nil, _ => false
  | _, .cons _ _, _ => false
def matSs : MC → S → List Stmt → Bool
  | _, .nil, l => l.isEmpty
  | c, .cons a r, l => match l with
    | x :: y => matS1 c a x && matSs c r y
    | [] => false
  | _, _, _ => false
end
/-- a def of the row is fn -/
def matFn (f : Str) (xs : List Str) (fn : Fn) (st : Stmt) : Bool := matSs ⟨fn.N, defScope st, fun _ => true, xs, decide (f = lamF)⟩ fn.body (defBody st)
end TL
/-! T2e: mat's equations (printed by eqs.py) -/
namespace TL
open PySem PySem.Spec L2
set_option autoImplicit false
theorem m_var {c : MC} {i} {e} : mat c (.var i) e = (match e with
    | .Name x _ => visB c i x
    | _ => false) := rfl
theorem m_frz {c : MC} {i} {e} : mat c (.frz i) e = (match e with
    | .Name x _ => visB c i x
    | _ => false) := rfl
theorem m_cst {c : MC} {d} {e} : mat c (.cst d) e = (match e with
    | .Constant k _ _ => constM d k
    | _ => false) := rfl
theorem m_glb {c : MC} {x} {e} : mat c (.glb x) e = (match e with
    | .Name y _ => decide (x = y) && glB c x
    | _ => false) := rfl
theorem m_bin {c : MC} {op a b} {e} : mat c (.bin op a b) e = (match e with
    | .BinOp l o r _ => decide (op = o) && mat c a l && mat c b r
    | _ => false) := rfl
theorem m_neg {c : MC} {a} {e} : mat c (.neg a) e = (match e with
    | .UnaryOp .USub l _ => mat c a l
    | _ => false) := rfl
theorem m_not {c : MC} {a} {e} : mat c (.not a) e = (match e with
    | .UnaryOp .Not l _ => mat c a l && !a.isIfe
    | _ => false) := rfl
theorem m_cmp {c : MC} {op a b} {e} : mat c (.cmp op a b) e = (match e with
    | .Compare l [o] [r] _ => decide (op = o) && mat c a l && mat c b r
    | _ => false) := rfl
theorem m_chn {c : MC} {o1 o2 a b d} {e} : mat c (.chn o1 o2 a b d) e = (match e with
    | .Compare l [p1, p2] [r, t] _ => decide (o1 = p1) && decide (o2 = p2) && mat c a l && mat c b r && mat c d t
    | _ => false) := rfl
theorem m_and {c : MC} {es} {e} : mat c (.and es) e = (match e with
    | .BoolOp .And l _ => matL c es l && decide (2 ≤ l.length) && es.noIfe
    | _ => false) := rfl
theorem m_or {c : MC} {es} {e} : mat c (.or es) e = (match e with
    | .BoolOp .Or l _ => matL c es l && decide (2 ≤ l.length) && es.noIfe
    | _ => false) := rfl
theorem m_ife {c : MC} {t a b} {e} : mat c (.ife t a b) e = (match e with
    | .IfExp u l r _ => mat c t u && mat c a l && mat c b r && !t.isIfe
    | _ => false) := rfl
theorem m_tup {c : MC} {es} {e} : mat c (.tup es) e = (match e with
    | .Tuple l _ _ => matL c es l && decide (l.length ≤ 1000)
    | _ => false) := rfl
theorem m_lst {c : MC} {es} {e} : mat c (.lst es) e = (match e with
    | .List l _ => matL c es l && decide (l.length ≤ 1000)
    | _ => false) := rfl
theorem m_idx {c : MC} {a i} {e} : mat c (.idx a i) e = (match e with
    | .Subscript l r _ => mat c a l && mat c i r
    | _ => false) := rfl
theorem m_slc {c : MC} {a lo hi} {e} : mat c (.slc a lo hi) e = (match e with
    | .Subscript l (.Slice u v none _) _ => mat c a l && matO c lo u && matO c hi v
    | _ => false) := rfl
theorem m_rev {c : MC} {a} {e} : mat c (.rev a) e = (match e with
    | .Subscript l (.Slice none none (some (.UnaryOp .USub (.Constant (.int 1) _ _) _)) _) _ => mat c a l
    | _ => false) := rfl
theorem m_lc {c : MC} {ts it elt} {e} : mat c (.lc ts it elt) e = (match e with
    | .ListComp el [⟨tg, iter, [], 0⟩] scope _ => match tgOwn ts tg with
      | some own => blkC c.N c.sc scope own && matT (c.blk scope) ts tg && matI c it iter && mat (c.blk scope) elt el
      | none => false
    | _ => false) := rfl
theorem m_lcf {c : MC} {ts it cond elt} {e} : mat c (.lcf ts it cond elt) e = (match e with
    | .ListComp el [⟨tg, iter, [co], 0⟩] scope _ => match tgOwn ts tg with
      | some own => blkC c.N c.sc scope own && matT (c.blk scope) ts tg && matI c it iter && mat (c.blk scope) cond co && mat (c.blk scope) elt el
      | none => false
    | _ => false) := rfl
theorem m_len {c : MC} {a} {e} : mat c (.len a) e = (match e with
    | .Call (.Name f _) [x] [] _ => decide (f = ("len" : Str)) && glB c f && mat c a x
    | _ => false) := rfl
theorem m_call {c : MC} {f es} {e} : mat c (.call f es) e = (match e with
    | .Call (.Name g _) (x :: r) [] _ => decide (f = g) && glB c f && matL c es (x :: r)
    | _ => false) := rfl
theorem m_bi {c : MC} {b es} {e} : mat c (.bi b es) e = (match e with
    | .Call (.Name f _) (x :: r) [] _ => decide (f = b.name) && glB c f && matL c es (x :: r)
    | _ => false) := rfl
theorem m_isi {c : MC} {a T} {e} : mat c (.isi a T) e = (match e with
    | .Call (.Name f _) [x, .Name t _] [] _ => decide (f = ("isinstance" : Str)) && glB c f && mat c a x && decide (t = Str.ofString T) && glB c t && decide (T ∈ isiTypes)
    | _ => false) := rfl
theorem m_mt {c : MC} {m o es} {e} : mat c (.mt m o es) e = (match e with
    | .Call (.Attribute l f p) (x :: r) [] q => decide (f = m.name) && mat c o l && matL c es (x :: r) && decide (r.length < 20) && (p.endLine == q.line)
    | _ => false) := rfl
theorem m_app {c : MC} {o a} {e} : mat c (.app o a) e = (match e with
    | .Call (.Attribute l f p) [x] [] q => decide (f = ("append" : Str)) && mat c o l && mat c a x && (p.endLine == q.line)
    | _ => false) := rfl
theorem m_ext {c : MC} {o a} {e} : mat c (.ext o a) e = (match e with
    | .Call (.Attribute l f p) [x] [] q => decide (f = ("extend" : Str)) && mat c o l && mat c a x && (p.endLine == q.line)
    | _ => false) := rfl
theorem m_pop {c : MC} {o} {e} : mat c (.pop o) e = (match e with
    | .Call (.Attribute l f p) [] [] q => decide (f = ("pop" : Str)) && mat c o l && (p.endLine == q.line)
    | _ => false) := rfl
theorem m_popAt {c : MC} {o a} {e} : mat c (.popAt o a) e = (match e with
    | .Call (.Attribute l f p) [x] [] q => decide (f = ("pop" : Str)) && mat c o l && mat c a x && (p.endLine == q.line)
    | _ => false) := rfl
theorem m_rvs {c : MC} {a lo hi} {e} : mat c (.rvs a lo hi) e = (match e with
    | .Subscript l (.Slice u v (some (.UnaryOp .USub (.Constant (.int 1) _ _) _)) _) _ => mat c a l && matO c lo u && matO c hi v
    | _ => false) := rfl
theorem m_sset {c : MC} {a} {e} : mat c (.sset a) e = (match e with
    | .Call (.Name f _) [.Call (.Name g _) [x] [] _] [] _ => decide (f = ("sorted" : Str)) && glB c f && decide (g = ("set" : Str)) && glB c g && mat c a x
    | _ => false) := rfl
theorem m_chn3 {c : MC} {o1 o2 o3 a b d d2} {e} : mat c (.chn3 o1 o2 o3 a b d d2) e = (match e with
    | .Compare l [p1, p2, p3] [r, t, u] _ => decide (o1 = p1) && decide (o2 = p2) && decide (o3 = p3) && mat c a l && mat c b r && mat c d t && mat c d2 u
    | _ => false) := rfl
theorem m_lix {c : MC} {a b} {e} : mat c (.lix a b) e = (match e with
    | .Call (.Attribute l n p) [x] [] q => decide (n = ("index" : Str)) && mat c a l && mat c b x && (p.endLine == q.line)
    | _ => false) := rfl
theorem m_upp {c : MC} {a} {e} : mat c (.upp a) e = (match e with
    | .Call (.Attribute l n p) [] [] q => decide (n = ("upper" : Str)) && mat c a l && (p.endLine == q.line)
    | _ => false) := rfl
theorem m_srk {c : MC} {a i} {e} : mat c (.srk a i) e = (match e with
    | .Call (.Name f _) [.Call (.Name g _) [x] [] _] [kw] _ => decide (f = ("sorted" : Str)) && glB c f && decide (g = ("range" : Str)) && glB c g && mat c a x && decide (kw.arg = some ("key" : Str)) && c.lam && lamE c i kw.value
    | _ => false) := rfl
theorem m_edt {c : MC}  {e} : mat c .edt e = (match e with
    | .Dict [] [] _ => true
    | _ => false) := rfl
theorem m_lset {c : MC} {a} {e} : mat c (.lset a) e = (match e with
    | .Call (.Name f _) [.Call (.Name g _) [x] [] _] [] _ => decide (f = ("len" : Str)) && glB c f && decide (g = ("set" : Str)) && glB c g && mat c a x
    | _ => false) := rfl
theorem m_mk {c : MC} {a} {e} : mat c (.mk a) e = (match e with
    | .Call (.Name f p) (x :: r) [] q => mat c a (.Call (.Name f p) (x :: r) [] q)
    | _ => false) := rfl
theorem m_lrg {c : MC} {a} {e} : mat c (.lrg a) e = (match e with
    | .Call (.Name f _) [.Call (.Name g _) [x] [] _] [] _ => decide (f = ("list" : Str)) && glB c f && decide (g = ("range" : Str)) && glB c g && mat c a x
    | _ => false) := rfl
theorem m_lrg2 {c : MC} {a b} {e} : mat c (.lrg2 a b) e = (match e with
    | .Call (.Name f _) [.Call (.Name g _) [x, y] [] _] [] _ => decide (f = ("list" : Str)) && glB c f && decide (g = ("range" : Str)) && glB c g && mat c a x && mat c b y
    | _ => false) := rfl
theorem m_idh {c : MC} {i a} {e} : mat c (.idh i a) e = (match e with
    | .Subscript (.Name x _) r _ => visB c i x && mat c a r
    | _ => false) := rfl
theorem m_lol {c : MC} {j it} {e} : mat c (.lol j it) e = (match e with
    | .ListComp (.List [] _) [⟨tg, iter, [], 0⟩] scope _ => match tgOwn [j] tg with
      | some own => blkC c.N c.sc scope own && matT (c.blk scope) [j] tg && matI c it iter
      | none => false
    | _ => false) := rfl
theorem m_nil {c : MC}  {e} : mat c .nil e = (false) := rfl
theorem m_cons {c : MC} {x1 x2} {e} : mat c (.cons x1 x2) e = (false) := rfl
theorem m_rng {c : MC} {x1} {e} : mat c (.rng x1) e = (false) := rfl
theorem m_zip {c : MC} {x1 x2} {e} : mat c (.zip x1 x2) e = (false) := rfl
theorem m_enm {c : MC} {x1} {e} : mat c (.enm x1) e = (false) := rfl
theorem m_itv {c : MC} {x1} {e} : mat c (.itv x1) e = (false) := rfl
theorem mL_nil {c : MC}  {l} : matL c .nil l = (l.isEmpty) := rfl
theorem mL_cons {c : MC} {a es} {l} : matL c (.cons a es) l = (match l with
    | x :: r => mat c a x && matL c es r
    | [] => false) := rfl
theorem mO_nil {c : MC}  {o} : matO c .nil o = (o.isNone) := rfl
theorem mO_cons {c : MC} {e es} {o} : matO c (.cons e es) o = (match o with
    | some x => mat c e x && es.isNil
    | none => false) := rfl
theorem mI_rng {c : MC} {es} {e} : matI c (.rng es) e = (match e with
    | .Call (.Name f _) (x :: r) [] _ => decide (f = ("range" : Str)) && glB c f && matL c es (x :: r) && decide (r.length ≤ 2)
    | _ => false) := rfl
theorem mI_itv {c : MC} {a} {e} : matI c (.itv a) e = (mat c a e) := rfl
end TL
/-! T3: readings; operations upon data -/
namespace TL
open PySem PySem.Spec L2
set_option autoImplicit false

section
variable {K : PySem.W.Frag} {P : Addr → Prop} {H H1 H2 : Hp} {as as1 as2 : List Addr} {μ μ1 μ2 : Mu} {σ : L2.St} {ρ : Ro}
theorem Wd.live (w : Wd P H as μ) {a : Addr} (h : Mf P as μ a) : H a ≠ none := by
  rcases h with h | ⟨n, e, h1, h2⟩
  · exact w.pt a h
  · obtain ⟨p, e1, _, e2⟩ := w.obj n e h2
    rw [h1] at e1
    cases e1
    cases e with
    | lst xs =>
      obtain ⟨vs, e2, _⟩ := e2
      rw [e2]; simp
    | hds ns =>
      obtain ⟨ps, e2, _⟩ := e2
      rw [e2]; simp
theorem Wd.free (w : Wd P H as μ) {a : Addr} (h : H a = none) : ¬ Mf P as μ a := fun z => w.live z h
/-- a new object is laid -/
theorem Ex.laid {p : Addr} {o : HO} (h : H p = none) : Ex P H as μ (upd H p o) as μ where
  zp := fun _ h => h.elim
  pre := List.prefix_refl as
  dom := fun a n => by
    by_cases e : a = p
    · subst e; rw [upd_same]; simp
    · rw [upd_ne e]; exact n
  keep := fun a u e _ _ _ => by rw [upd_ne (ne_of_none e h)]; exact e
  tab := fun a t => t.ext fun b u e => by rw [upd_ne (ne_of_none e h)]; exact e
  old := fun n e _ h => ⟨e, h⟩
  new := fun n q hn e => by
    have := (List.getElem?_eq_some_iff.mp e).1
    omega
/-- the same store in a grown heap -/
theorem Wd.grow (w : Wd P H as μ) (x : Ex P H as μ H1 as μ) (hs : ∀ a o, H a = some o → H1 a = some o) : Wd P H1 as μ where
  len := w.len
  obj := fun n e h => by
    obtain ⟨p, h1, h2, h3⟩ := w.obj n e h
    refine ⟨p, h1, h2, ?_⟩
    cases e with
    | lst xs =>
      obtain ⟨vs, e, q⟩ := h3
      exact ⟨vs, hs _ _ e, q.ex x⟩
    | hds ns =>
      obtain ⟨ps, e, q⟩ := h3
      exact ⟨ps, hs _ _ e, q.ex x⟩
  pt := fun a h => x.dom a (w.pt a h)
  inj := w.inj
theorem Wd.laid (w : Wd P H as μ) {p : Addr} {o : HO} (h : H p = none) : Wd P (upd H p o) as μ :=
  w.grow (Ex.laid h) fun a u e => by rw [upd_ne (ne_of_none e h)]; exact e
theorem frOk {p : Addr} {vs : List V} {ds : List D} (w : Wd P H as μ) (h : H p = none) (t : DmAll (Mf P as μ) H vs ds) : VlOk P (upd H p (.lst vs)) as μ K H (.ref p) (.fr ds) := by
  have nm := w.free h
  have tr : ∀ {ws : List V} {es : List D}, DmAll (Mf P as μ) H ws es → DmAll (fun a => Mf P as μ a ∨ a = p) (upd H p (.lst vs)) ws es := fun t => by
    refine t.to (fun a o e _ => by rw [upd_ne (ne_of_none e h)]; exact e) fun a z => ?_
    rcases z with z | z
    · exact .inl z
    · rw [z]; exact .inr h
  refine ⟨p, vs, rfl, h, fun z => nm (.inl z), upd_same, nm, tr t, fun n xs hn => ?_⟩
  obtain ⟨q, h1, _, ws, h2, h3⟩ := w.obj n _ hn
  exact ⟨q, ws, h1, by rw [upd_ne (ne_of_none h2 h)]; exact h2, tr h3⟩
theorem tupOk {p : Addr} {vs : List V} {ds : List D} (w : Wd P H as μ) (h : H p = none) (t : DmAll (Mf P as μ) H vs ds) : Dm (Mf P as μ) (upd H p (.tup vs)) (.ref p) (.tuple ds) :=
  .tup upd_same (w.free h) (t.to (fun a o e _ => by rw [upd_ne (ne_of_none e h)]; exact e) fun a z => .inl z)

/-- a value is the data at hand (its top may be changeable) -/
def Dv (P : Addr → Prop) (H : Hp) (as : List Addr) (μ : Mu) (x : V) (d : D) : Prop :=
  Dm (Mf P as μ) H x d ∨ ∃ p xs ds, x = .ref p ∧ d = .list ds ∧ H p = some (.lst xs) ∧ DmAll (Mf P as μ) H xs ds
theorem Dv.dp {x : V} {d : D} (h : Dv P H as μ x d) (nd : d.hasDict = false) : Dp K H x d := by
  rcases h with h | ⟨p, xs, ds, rfl, rfl, e, t⟩
  · exact h.dp nd
  · exact .lst (.of e) (t.dp (by simpa only [PyData.hasDict] using nd))
theorem nd_of {d : D} (h : SeqAt.shaped d = true) : d.hasDict = false := PyData.hasDict_of_canLay d (SeqAt.canLay_of_shaped h)
theorem ndl_of {ds : List D} (h : SeqAt.shaped (.list ds) = true) : (PyData.tuple ds).hasDict = false := by
  have := nd_of h
  simpa only [PyData.hasDict] using this
theorem Dv.list {x : V} {ds : List D} (h : Dv P H as μ x (.list ds)) : ∃ p xs, x = .ref p ∧ H p = some (.lst xs) ∧ DmAll (Mf P as μ) H xs ds := by
  rcases h with h | ⟨p, xs, ds', rfl, e', e, t⟩
  · cases h with
    | lst e _ t => exact ⟨_, _, rfl, e, t⟩
  · cases e'
    exact ⟨_, _, rfl, e, t⟩
theorem Dv.tup {x : V} {ds : List D} (h : Dv P H as μ x (.tuple ds)) : ∃ p xs, x = .ref p ∧ H p = some (.tup xs) ∧ DmAll (Mf P as μ) H xs ds := by
  rcases h with h | ⟨p, xs, ds', rfl, e', e, t⟩
  · cases h with
    | tup e _ t => exact ⟨_, _, rfl, e, t⟩
  · cases e'
theorem Dv.int {x : V} {i : Int} (h : Dv P H as μ x (.int i)) : x = .int i := by
  rcases h with h | ⟨p, xs, ds', rfl, e', e, t⟩
  · cases h; rfl
  · cases e'
theorem Dv.str {x : V} {i : Str} (h : Dv P H as μ x (.str i)) : x = .str i := by
  rcases h with h | ⟨p, xs, ds', rfl, e', e, t⟩
  · cases h; rfl
  · cases e'
theorem Dv.bl {x : V} {i : Bool} (h : Dv P H as μ x (.bool i)) : x = .bl i := by
  rcases h with h | ⟨p, xs, ds', rfl, e', e, t⟩
  · cases h; rfl
  · cases e'
theorem Dv.non {x : V} (h : Dv P H as μ x .none) : x = .non := by
  rcases h with h | ⟨p, xs, ds', rfl, e', e, t⟩
  · cases h; rfl
  · cases e'
theorem Dv.dict {x : V} {kvs : List (D × D)} (h : Dv P H as μ x (.dict kvs)) : ∃ p, x = .ref p ∧ H p = some (.dK []) := by
  rcases h with h | ⟨p, xs, ds', rfl, e', e, t⟩
  · cases h with
    | emp e _ => exact ⟨_, rfl, e⟩
  · cases e'
/-- what drf reads off -/
theorem VlW.dv {H0 : Hp} {v : V} {x : Vl} {d : D} (w : Wd P H as μ) (h : VlW P H as μ K H0 v x) (e : drf μ x = some d) : Dv P H as μ v d := by
  cases x with
  | dt d' =>
    cases e
    exact .inl h
  | hd n =>
    obtain ⟨p, e1, rfl⟩ := h
    simp only [drf] at e
    split at e
    · rename_i xs hx
      cases e
      obtain ⟨q, h1, _, vs, h2, h3⟩ := w.obj n _ hx
      rw [e1] at h1
      cases h1
      exact .inr ⟨p, vs, xs, rfl, rfl, h2, h3⟩
    · cases e
  | fr xs =>
    cases e
    obtain ⟨p, vs, rfl, _, _, h1, h2, h3⟩ := h
    exact .inr ⟨p, vs, xs, rfl, rfl, h1, h3.to (fun _ _ e _ => e) fun a z => .inl (.inl z)⟩
  | scr ns => cases e
/-- data that no one changes -/
theorem VlW.dm {H0 : Hp} {v : V} {x : Vl} {d : D} (h : VlW P H as μ K H0 v x) (e : x.data = some d) : Dm (Mf P as μ) H v d := by
  cases x with
  | dt d' =>
    cases e
    exact h
  | hd n => cases e
  | fr xs =>
    cases e
    obtain ⟨p, vs, rfl, _, _, h1, h2, h3⟩ := h
    exact .lst h1 h2 (h3.to (fun _ _ e _ => e) fun a z => .inl (.inl z))
  | scr ns => cases e
theorem VlW.fz {H0 : Hp} {v : V} {x : Vl} (h : VlW P H as μ K H0 v x) : SlOk K P H as μ v x.fz := by
  cases x with
  | dt d' => exact h
  | hd n => exact h
  | fr xs => exact VlW.dm (x := .fr xs) h rfl
  | scr ns => exact h
theorem VlOk.dv {H0 : Hp} {v : V} {x : Vl} {d : D} (w : Wd P H as μ) (h : VlOk P H as μ K H0 v x) (e : drf μ x = some d) : Dv P H as μ v d := h.weak.dv w e
theorem VlOk.dm {H0 : Hp} {v : V} {x : Vl} {d : D} (h : VlOk P H as μ K H0 v x) (e : x.data = some d) : Dm (Mf P as μ) H v d := h.weak.dm e
theorem VlOk.fz {H0 : Hp} {v : V} {x : Vl} (h : VlOk P H as μ K H0 v x) : SlOk K P H as μ v x.fz := h.weak.fz
/-- several values -/
def VlsOk (P : Addr → Prop) (H : Hp) (as : List Addr) (μ : Mu) (K : PySem.W.Frag) (H0 : Hp) : List V → List Vl → Prop := Paired fun v x => VlW P H as μ K H0 v x
def DvAll (P : Addr → Prop) (H : Hp) (as : List Addr) (μ : Mu) : List V → List D → Prop := Paired fun v d => Dv P H as μ v d
theorem VlsOk.dv {H0 : Hp} (w : Wd P H as μ) : ∀ {vs : List V} {xs : List Vl} {ds : List D}, VlsOk P H as μ K H0 vs xs → datas μ xs = some ds → DvAll P H as μ vs ds
  | _, [], _, .nil, e => by cases e; exact .nil
  | _, x :: xs, ds, .cons h t, e => by
    unfold datas at e
    split at e
    · rename_i d ds' h1 h2
      cases e
      exact .cons (h.dv w h1) (VlsOk.dv w t h2)
    · cases e
theorem datas_nil_data : ∀ {xs : List Vl} {ds : List D}, datas [] (xs.map Vl.fz) = some ds → ∀ {H0 : Hp} {vs : List V}, VlsOk P H as μ K H0 vs xs → DmAll (Mf P as μ) H vs ds
  | [], _, e, _, _, .nil => by cases e; exact .nil
  | x :: xs, ds, e, _, _, .cons h t => by
    rw [List.map_cons] at e
    unfold datas at e
    split at e
    · rename_i d ds' h1 h2
      cases e
      refine .cons (h.dm ?_) (datas_nil_data h2 t)
      cases x with
      | dt d' => exact h1
      | hd n => simp [Vl.fz, drf] at h1
      | fr ys => exact h1
      | scr ns => exact h1
    · cases e
theorem DmAll.dvs : ∀ {vs : List V} {ds : List D}, DmAll (Mf P as μ) H vs ds → DvAll P H as μ vs ds
  | _, _, .nil => .nil
  | _, _, .cons h t => .cons (.inl h) (DmAll.dvs t)
theorem VlsOk.ex {H0 : Hp} (x : Ex P H as μ H1 as1 μ1) : ∀ {vs : List V} {ys : List Vl}, VlsOk P H as μ K H0 vs ys → VlsOk P H1 as1 μ1 K H0 vs ys
  | _, _, .nil => .nil
  | _, _, .cons h t => .cons (h.ex x) (VlsOk.ex x t)
theorem VlsOk.back {H0 H00 : Hp} (hd : ∀ a, H00 a ≠ none → H0 a ≠ none) : ∀ {vs : List V} {ys : List Vl}, VlsOk P H as μ K H0 vs ys → VlsOk P H as μ K H00 vs ys
  | _, _, .nil => .nil
  | _, _, .cons h t => .cons (h.back hd) (VlsOk.back hd t)
end

/-! ### readings -/
section
variable (mg : Str → Option Value) (W : WX)
/-- what an outcome asks -/
def Fin {α : Type} (P : Addr → Prop) (σ : L2.St) (H : Hp) (as : List Addr) (μ : Mu) (r : Rs α) (k : α → Mu → Hp → List Addr → Prop) : Prop := match r with
  | .ok x μ' => ∀ H' as', Ex P H as μ H' as' μ' → Wd P H' as' μ' → k x μ' H' as'
  | .exc c μ' => ∀ H' as' C, Ex P H as μ H' as' μ' → Wd P H' as' μ' → mg c = some (.ref C) → W (.ref C) none σ H'
  | .bad => False
variable (K : PySem.W.Frag)
def tX (f : Ro → Mu → Rs Vl) : TE := fun σ H Q => ∃ ρ μ P as, Wd P H as μ ∧ RoOk K P H as μ σ ρ ∧ Fin mg W P σ H as μ (f ρ μ) fun x μ' H' as' => ∀ v, VlOk P H' as' μ' K H v x → Q v H'
def tXL (f : Ro → Mu → Rs (List Vl)) : TA := fun σ H Q => ∃ ρ μ P as, Wd P H as μ ∧ RoOk K P H as μ σ ρ ∧ Fin mg W P σ H as μ (f ρ μ) fun xs μ' H' as' => ∀ vs, VlsOk P H' as' μ' K H vs xs → Q vs H'
def tXB (f : Ro → Mu → Rs Bool) : TT := fun σ H Q => ∃ ρ μ P as, Wd P H as μ ∧ RoOk K P H as μ σ ρ ∧ Fin mg W P σ H as μ (f ρ μ) fun b μ' H' as' => Q b H'
def tXP (f : Ro → Mu → Rs (Option Int)) : TO := fun σ H Q => ∃ ρ μ P as, Wd P H as μ ∧ RoOk K P H as μ σ ρ ∧ Fin mg W P σ H as μ (f ρ μ) fun b μ' H' as' => Q b H'
end
section
variable {mg : Str → Option Value} {W : WX} {K : PySem.W.Frag} {P : Addr → Prop} {σ : L2.St} {H H1 : Hp} {as as1 : List Addr} {μ μ1 : Mu} {α β : Type}
theorem Fin.step {r : Rs α} {k : α → Mu → Hp → List Addr → Prop} (x : Ex P H as μ H1 as1 μ1) (h : Fin mg W P σ H as μ r k) : Fin mg W P σ H1 as1 μ1 r k := by
  cases r with
  | ok a μ' => exact fun H' as' e w => h H' as' (x.trans e) w
  | exc c μ' => exact fun H' as' C e w g => h H' as' C (x.trans e) w g
  | bad => exact h
theorem Fin.mono {r : Rs α} {k k' : α → Mu → Hp → List Addr → Prop} (hk : ∀ a μ' H' as', Ex P H as μ H' as' μ' → k a μ' H' as' → k' a μ' H' as') (h : Fin mg W P σ H as μ r k) : Fin mg W P σ H as μ r k' := by
  cases r with
  | ok a μ' => exact fun H' as' e w => hk a μ' H' as' e (h H' as' e w)
  | exc c μ' => exact h
  | bad => exact h
/-- first r, then g -/
theorem Fin.bind {r : Rs α} {g : α → Mu → Rs β} {k : β → Mu → Hp → List Addr → Prop} (h : Fin mg W P σ H as μ (r.bind g) k) :
    Fin mg W P σ H as μ r fun a μ1 H1 as1 => Ex P H as μ H1 as1 μ1 ∧ Wd P H1 as1 μ1 ∧ Fin mg W P σ H1 as1 μ1 (g a μ1) k := by
  cases r with
  | ok a μ' => exact fun H' as' e w => ⟨e, w, Fin.step e h⟩
  | exc c μ' => exact h
  | bad => exact h
theorem Fin.of {o : Option α} {k : α → Mu → Hp → List Addr → Prop} (h : Fin mg W P σ H as μ (Rs.of o μ) k) : ∃ a, o = some a ∧ ∀ H' as', Ex P H as μ H' as' μ → Wd P H' as' μ → k a μ H' as' := by
  cases o with
  | none => exact h.elim
  | some a => exact ⟨a, rfl, h⟩
end
theorem _root_.L2.PE.imp {X : Cx} {e : Expr} {t t' : TE} (h : PE X e t) (hi : ∀ σ H Q, t' σ H Q → t σ H Q) : PE X e t' := ⟨fun pins s σ H Q I q => h.run pins s σ H Q I (hi σ H Q q)⟩
theorem _root_.L2.PT.imp {X : Cx} {e : Expr} {t t' : TT} (h : PT X e t) (hi : ∀ σ H Q, t' σ H Q → t σ H Q) : PT X e t' := ⟨fun pins s σ H Q I q => h.run pins s σ H Q I (hi σ H Q q)⟩
theorem _root_.L2.PW.imp {X : Cx} {e : Expr} {t t' : TT} (h : PW X e t) (hi : ∀ σ H Q, t' σ H Q → t σ H Q) : PW X e t' := ⟨fun wh pins s σ H Q I q => h.run wh pins s σ H Q I (hi σ H Q q)⟩
theorem _root_.L2.PA.imp {X : Cx} {e : List Expr} {t t' : TA} (h : PA X e t) (hi : ∀ σ H Q, t' σ H Q → t σ H Q) : PA X e t' := ⟨fun pos pins s σ H Q I q => h.run pos pins s σ H Q I (hi σ H Q q)⟩
theorem _root_.L2.PO.imp {X : Cx} {e : Option Expr} {t t' : TO} (h : PO X e t) (hi : ∀ σ H Q, t' σ H Q → t σ H Q) : PO X e t' := ⟨fun pins s σ H Q I q => h.run pins s σ H Q I (hi σ H Q q)⟩
theorem _root_.L2.PI.imp {X : Cx} {tg e : Expr} {t t' : TI} (h : PI X tg e t) (hi : ∀ σ H R, t' σ H R → t σ H R) : PI X tg e t' := ⟨fun pins s σ H Q I q => h.run pins s σ H Q I (hi σ H Q q)⟩
theorem _root_.L2.PSs.imp {X : Cx} {e : List Stmt} {t t' : TS} (h : PSs X e t) (hi : ∀ D σ H, t' D σ H → t D σ H) : PSs X e t' := ⟨fun pins s σ H D I q => h.run pins s σ H D I (hi D σ H q)⟩
theorem _root_.L2.PS.imp {X : Cx} {e : Stmt} {t t' : TS} (h : PS X e t) (hi : ∀ D σ H, t' D σ H → t D σ H) : PS X e t' := ⟨fun pins s σ H D I q => h.run pins s σ H D I (hi D σ H q)⟩
theorem OpR.imp {X : Cx} {f : Value → Value → Sem Value} {r r' : R2} (h : OpR X f r) (hi : ∀ x y H Q, r' x y H Q → r x y H Q) : OpR X f r' := fun pins s σ H x y v u Q I rx ry q => h pins s σ H x y v u Q I rx ry (hi _ _ _ _ q)
theorem CallR.imp {X : Cx} {f : Value} {r r' : List V → Hp → VK → Prop} (h : CallR X f r) (hi : ∀ xs H Q, r' xs H Q → r xs H Q) : CallR X f r' := fun pins s σ H xs us Q I rx q => h pins s σ H xs us Q I rx (hi _ _ _ q)
theorem MtR.imp {X : Cx} {id : String} {r r' : V → List V → Hp → VK → Prop} (h : MtR X id r) (hi : ∀ x xs H Q, r' x xs H Q → r x xs H Q) : MtR X id r' := fun pins s σ H x xs v us Q I rx rs q => h pins s σ H x xs v us Q I rx rs (hi _ _ _ _ q)

/-! ### operations upon data, by values -/
section
variable (K : PySem.W.Frag)
/-- the answer z may be handed on -/
def Ans (P : Addr → Prop) (H : Hp) (as : List Addr) (μ : Mu) (z : Vl) (Q : VK) : Prop := ∀ v H', Ex P H as μ H' as μ → Wd P H' as μ → VlOk P H' as μ K H v z → Q v H'
def rD2 (g : D → D → Option Vl) : R2 := fun x y H Q => ∃ P as μ a b z, Wd P H as μ ∧ Dv P H as μ x a ∧ Dv P H as μ y b ∧ g a b = some z ∧ Ans K P H as μ z Q
def rDs (g : List D → Option Vl) : List V → Hp → VK → Prop := fun xs H Q => ∃ P as μ ds z, Wd P H as μ ∧ DvAll P H as μ xs ds ∧ g ds = some z ∧ Ans K P H as μ z Q
def rDm (g : D → List D → Option Vl) : V → List V → Hp → VK → Prop := fun x xs H Q => ∃ P as μ d ds z, Wd P H as μ ∧ Dv P H as μ x d ∧ DvAll P H as μ xs ds ∧ g d ds = some z ∧ Ans K P H as μ z Q
end
section
variable {K : PySem.W.Frag} {P : Addr → Prop} {H : Hp} {as : List Addr} {μ : Mu} {Q : VK}
theorem Ans.same {v : V} {z : Vl} (h : Ans K P H as μ z Q) (w : Wd P H as μ) (q : VlOk P H as μ K H v z) : Q v H := h v H Ex.refl w q
theorem Ans.dt {v : V} {d : D} (h : Ans K P H as μ (.dt d) Q) (w : Wd P H as μ) (q : Dm (Mf P as μ) H v d) : Q v H := h v H Ex.refl w q
theorem Ans.fr {p : Addr} {vs : List V} {ds : List D} (h : Ans K P H as μ (.fr ds) Q) (w : Wd P H as μ) (n : H p = none) (t : DmAll (Mf P as μ) H vs ds) : Q (.ref p) (upd H p (.lst vs)) :=
  h _ _ (Ex.laid n) (w.laid n) (frOk w n t)
theorem Ans.tup {p : Addr} {vs : List V} {ds : List D} (h : Ans K P H as μ (.dt (.tuple ds)) Q) (w : Wd P H as μ) (n : H p = none) (t : DmAll (Mf P as μ) H vs ds) : Q (.ref p) (upd H p (.tup vs)) :=
  h _ _ (Ex.laid n) (w.laid n) (tupOk w n t)
end
end TL
/-! T4: operators and comparisons upon data -/
namespace TL
open PySem PySem.Spec L2
set_option autoImplicit false
section
variable {X : Cx}
theorem foldl_app (l : List Nat) : ∀ (n : Nat) (acc : Array Nat), (List.replicate n l.toArray).foldl (· ++ ·) acc = acc ++ (List.replicate n l).flatten.toArray
  | 0, acc => by simp
  | n + 1, acc => by
    rw [List.replicate_succ, List.foldl_cons, foldl_app l n, List.replicate_succ, List.flatten_cons]
    simp
theorem op_mul_str : OpR X (binaryOp .Mult) (fun x y H Q => ∃ (z : Str) (j : Int), x = .str z ∧ y = .int j ∧ 0 ≤ j ∧ j ≤ 1000 ∧ z.length ≤ 1000 ∧ Q (.str ⟨(List.replicate j.toNat z.cps.toList).flatten.toArray⟩) H) := by
  intro pins s σ H x y v u Q I rx ry h
  obtain ⟨z, j, rfl, rfl, h0, h1, h2, q⟩ := h
  obtain ⟨t, rfl⟩ := rx
  obtain ⟨t', rfl⟩ := ry
  have hl : z.length * j.toNat ≤ 1000000 := by
    have : j.toNat ≤ 1000 := by omega
    calc z.length * j.toNat ≤ 1000 * 1000 := Nat.mul_le_mul h2 this
      _ = 1000000 := by decide
  have ez : z.cps = z.cps.toList.toArray := by simp
  have tl : Builtin.Str.tooLong (z.length * j.toNat) = false := by
    unfold Builtin.Str.tooLong
    exact decide_eq_false (by rw [sizeLine_eq]; omega)
  refine PySem.P.mul_str ?_ (fun g _ => ?_) (fun _ _ => tl) ?_
  · rw [decide_eq_false (by omega), decide_eq_false (by omega)]; rfl
  · have : (1000 : Int) ≤ (2 ^ 63 - 1) / j := by
      apply Int.le_ediv_of_mul_le (by omega)
      have : (1000 : Int) * j ≤ 1000 * 1000 := by omega
      omega
    omega
  · by_cases h3 : j < 1
    · rw [if_pos h3]
      have ej : j.toNat = 0 := by omega
      refine ⟨by decide, .str _, H, I.tok _, ⟨_, rfl⟩, ?_⟩
      rw [ej] at q
      exact q
    · rw [if_neg h3]
      by_cases h4 : (j == 1 || z.length == 0) = true
      · rw [if_pos h4]
        refine ⟨.str z, H, I, ⟨_, rfl⟩, ?_⟩
        have ee : (List.replicate j.toNat z.cps.toList).flatten.toArray = z.cps := by
          rw [Bool.or_eq_true] at h4
          rcases h4 with h4 | h4
          · have e1 : j = 1 := by simpa using h4
            subst e1
            simp
          · have e1 : z.cps.toList = [] := by
              have : z.length = 0 := by simpa using h4
              have e2 : z.cps.size = 0 := this
              simpa using e2
            rw [e1]
            have e2 : z.cps = #[] := by simpa using e1
            rw [e2]
            simp
        rw [ee] at q
        exact q
      · rw [if_neg h4]
        have e1 : (List.replicate j.toNat z.cps).foldl (· ++ ·) #[] = (List.replicate j.toNat z.cps.toList).flatten.toArray := by
          have := foldl_app z.cps.toList j.toNat #[]
          simpa using this
        rw [e1]
        refine ⟨?_, .str _, H, I.tok _, ⟨_, rfl⟩, q⟩
        show (List.replicate j.toNat z.cps.toList).flatten.toArray.size ≤ sizeLine
        rw [List.size_toArray, List.length_flatten, List.map_replicate, List.sum_replicate_nat, sizeLine_eq]
        have e3 : z.cps.toList.length = z.length := by simp [Str.length]
        rw [e3, Nat.mul_comm]
        omega

/-- tuple * 1: the tuple itself -/
theorem tuple_mul1 (l : Addr) (items : Array Value) (n : Nat) (dd : Option Addr) (sl : Array (Option Value)) (u : Tok) (c1 : (items.isEmpty || (1 : Int) == 1) = true) :
    Meets (Builtin.«tuple.__mul__» ⟨[.ref l, .int 1 u], []⟩) (fun _ R s => s.heap.get? l = some { cls := .type "tuple", dict := dd, data := .seq items n, slots := sl } ∧ R (.ok (.ret (Value.ref l))) s) :=
  .of_wp fun prog w A R s h => by
    obtain ⟨hp, g, d, tk, os⟩ := s
    obtain ⟨hl, h⟩ := h
    have f1 := AutoSeq1.idx_int
    have c0 : (decide ((1 : Int) < -(2 ^ 63)) || decide ((1 : Int) ≥ 2 ^ 63)) = false := by decide
    wp_walk using wpAny_loadPart' hl
    repeat (first
      | (refine wpAny_ite_false (decide_eq_false (by rw [c0]; exact Bool.false_ne_true)) ?_; wp_walk using wpAny_loadPart' hl)
      | (refine wpAny_ite_true (decide_eq_true (by rw [c1])) ?_; wp_walk using wpAny_loadPart' hl))
    exact ⟨_, rfl, h⟩
theorem op_rep1 : OpR X (binaryOp .Mult) (fun x y H Q => ∃ l xs, x = .ref l ∧ y = .int 1 ∧ SqT X.K H l xs ∧ xs ≠ [] ∧ Q (.ref l) H) := by
  intro pins s σ H x y v u Q I rx ry h
  obtain ⟨l, xs, rfl, rfl, hT, hne, q⟩ := h
  cases rx
  obtain ⟨t, rfl⟩ := ry
  obtain ⟨its, r, ⟨⟨cls, dd, data, sl⟩, ho, hc, n, hd⟩, hs⟩ := I.tuple hT
  simp only at hc hd
  subst hc hd
  refine wpAny_binaryOp_repeat_ref (T := "tuple") (U := "int") (by decide) ⟨_, ho, rfl⟩ (fun s' => typeIs_int s' 1 t) noFill_tuple_mul F.fills_int_mul F.slot_int_rmul repeat_tuple F.slot_int_index.lookup
    (call_meets F.slot_int_rmul (typeIs_int s 1 t) F.entry_int_rmul (F.args_int_rmul_2 _ _) (int_rmul_tuple 1 t l its.toArray n dd sl)
      ⟨ho, rfl, ⟨_, ho, rfl⟩, call_meets F.slot_tuple_mul ⟨_, ho, rfl⟩ F.entry_tuple_mul (F.args_tuple_mul_2 _ _) (tuple_mul1 l its.toArray n dd sl t (by simp)) ⟨ho, ?_⟩⟩)
  exact ⟨.ref l, H, I, rfl, q⟩
/-- a op b upon data -/
theorem bin_ok (op : Operator) : OpR X (binaryOp op) (rD2 X.K (binF op)) := by
  intro pins s σ H x y v u Q I rx ry h
  obtain ⟨P, as, μ, a, b, z, w, ha, hb, hg, q⟩ := h
  unfold binF at hg
  split at hg
  · cases hg
    rw [ha.int] at rx
    rw [hb.int] at ry
    exact op_add pins s σ H _ _ v u Q I rx ry ⟨_, _, rfl, rfl, q.dt w (.int _)⟩
  · split at hg
    · rename_i hl
      cases hg
      rw [ha.str] at rx
      rw [hb.str] at ry
      exact op_add_str pins s σ H _ _ v u Q I rx ry ⟨_, _, rfl, rfl, hl, q.dt w (.str _)⟩
    · cases hg
  · split at hg
    · rename_i hl
      cases hg
      obtain ⟨p, xs, rfl, e1, t1⟩ := ha.list
      obtain ⟨p2, ys, rfl, e2, t2⟩ := hb.list
      refine op_cat pins s σ H _ _ v u Q I rx ry ⟨p, p2, xs, ys, rfl, rfl, e1, e2, by rw [t1.length, t2.length]; exact hl, fun p hp => q.fr w hp (t1.append t2)⟩
    · cases hg
  · split at hg
    · rename_i hl
      cases hg
      obtain ⟨p, xs, rfl, e1, t1⟩ := ha.tup
      obtain ⟨p2, ys, rfl, e2, t2⟩ := hb.tup
      have n1 : ¬ Mf P as μ p := by
        rcases ha with h | ⟨_, _, _, _, e, _⟩
        · cases h with
          | tup _ n _ => exact n
        · cases e
      have n2 : ¬ Mf P as μ p2 := by
        rcases hb with h | ⟨_, _, _, _, e, _⟩
        · cases h with
          | tup _ n _ => exact n
        · cases e
      refine op_catA pins s σ H _ _ v u Q I rx ry ⟨p, p2, xs, ys, rfl, rfl, .of e1, .of e2, by rw [t1.length, t2.length]; exact hl, fun h0 => ?_, fun _ h0 => ?_, fun _ _ p hp => q.tup w hp (t1.append t2)⟩
      · subst h0
        cases t1
        exact q.dt w (.tup e2 n2 t2)
      · subst h0
        cases t2
        refine q.dt w (.tup e1 n1 ?_)
        rw [List.append_nil]
        exact t1
    · cases hg
  · cases hg
    rw [ha.int] at rx
    rw [hb.int] at ry
    exact op_sub pins s σ H _ _ v u Q I rx ry ⟨_, _, rfl, rfl, q.dt w (.int _)⟩
  · split at hg
    · rename_i hl
      cases hg
      rw [ha.int] at rx
      rw [hb.int] at ry
      exact op_mul pins s σ H _ _ v u Q I rx ry ⟨_, _, rfl, rfl, hl, q.dt w (.int _)⟩
    · cases hg
  · split at hg
    · rename_i hl
      cases hg
      rw [ha.str] at rx
      rw [hb.int] at ry
      exact op_mul_str pins s σ H _ _ v u Q I rx ry ⟨_, _, rfl, rfl, hl.1, hl.2.1, hl.2.2, q.dt w (.str _)⟩
    · cases hg
  · split at hg
    · rename_i hl
      cases hg
      obtain ⟨p, xs, rfl, e1, t1⟩ := ha.list
      rw [hb.int] at ry
      refine op_rep pins s σ H _ _ v u Q I rx ry ⟨p, _, xs, rfl, rfl, e1, hl.1, hl.2.1, by rw [t1.length]; exact hl.2.2, fun p hp => q.fr w hp ?_⟩
      have rep : ∀ n, DmAll (Mf P as μ) H (List.replicate n xs).flatten (List.replicate n _).flatten := fun n => by
        induction n with
        | zero => exact .nil
        | succ n ih =>
          rw [List.replicate_succ, List.replicate_succ, List.flatten_cons, List.flatten_cons]
          exact t1.append ih
      exact rep _
    · cases hg
  · split at hg
    · rename_i hl
      cases hg
      obtain ⟨p, xs, rfl, e1, t1⟩ := ha.tup
      rw [hb.int] at ry
      rcases (Int.lt_or_eq_of_le hl.1).symm with h1 | h1
      · subst h1
        refine op_rep1 pins s σ H _ _ v u Q I rx ry ⟨p, xs, rfl, rfl, .of e1, fun z => ?_, ?_⟩
        · subst z
          cases t1
          exact absurd hl.2.2.2 (by decide)
        · rcases ha with ha | ⟨_, _, _, _, e, _⟩
          · refine q.dt w ?_
            have e2 : ∀ l : List D, (List.replicate (Int.toNat 1) l).flatten = l := fun l => by simp
            rw [e2]
            exact ha
          · cases e
      refine op_repT pins s σ H _ _ v u Q I rx ry ⟨p, _, xs, rfl, rfl, .of e1, fun z => ?_, by omega, hl.2.1, by rw [t1.length]; exact hl.2.2.1, fun p hp => q.tup w hp ?_⟩
      · subst z
        cases t1
        exact absurd hl.2.2.2 (by decide)
      · have rep : ∀ n, DmAll (Mf P as μ) H (List.replicate n xs).flatten (List.replicate n _).flatten := fun n => by
          induction n with
          | zero => exact .nil
          | succ n ih =>
            rw [List.replicate_succ, List.replicate_succ, List.flatten_cons, List.flatten_cons]
            exact t1.append ih
        exact rep _
    · cases hg
  · split at hg
    · rename_i hl
      cases hg
      rw [ha.int] at rx
      rw [hb.int] at ry
      exact op_fdiv pins s σ H _ _ v u Q I rx ry ⟨_, _, rfl, rfl, hl, q.dt w (.int _)⟩
    · cases hg
  · split at hg
    · rename_i hl
      cases hg
      rw [ha.int] at rx
      rw [hb.int] at ry
      exact op_mod pins s σ H _ _ v u Q I rx ry ⟨_, _, rfl, rfl, hl, q.dt w (.int _)⟩
    · cases hg
  · split at hg
    · rename_i hl
      cases hg
      rw [ha.int] at rx
      rw [hb.int] at ry
      exact op_pow pins s σ H _ _ v u Q I rx ry ⟨_, _, rfl, rfl, hl, q.dt w (.int _)⟩
    · cases hg
  · cases hg
theorem intsOf_map : ∀ {ds : List D} {ns : List Int}, intsOf ds = some ns → ds = ns.map PyData.int
  | [], ns, h => by cases h; rfl
  | d :: r, ns, h => by
    cases d with
    | int i =>
      simp only [intsOf, Option.map_eq_some_iff] at h
      obtain ⟨ms, h1, h2⟩ := h
      subst h2
      rw [List.map_cons, intsOf_map h1]
    | _ => simp [intsOf] at h
theorem strsOf_map : ∀ {ds : List D} {ns : List Str}, strsOf ds = some ns → ds = ns.map PyData.str
  | [], ns, h => by cases h; rfl
  | d :: r, ns, h => by
    cases d with
    | str i =>
      simp only [strsOf, Option.map_eq_some_iff] at h
      obtain ⟨ms, h1, h2⟩ := h
      subst h2
      rw [List.map_cons, strsOf_map h1]
    | _ => simp [strsOf] at h
theorem blsOf_map : ∀ {ds : List D} {ns : List Bool}, blsOf ds = some ns → ds = ns.map PyData.bool
  | [], ns, h => by cases h; rfl
  | d :: r, ns, h => by
    cases d with
    | bool i =>
      simp only [blsOf, Option.map_eq_some_iff] at h
      obtain ⟨ms, h1, h2⟩ := h
      subst h2
      rw [List.map_cons, blsOf_map h1]
    | _ => simp [blsOf] at h
theorem okEq_or {a b : D} (h : okEq a b = true) : (∃ x y, a = .str x ∧ b = .str y) ∨ (SeqAt.shaped a = true ∧ SeqAt.shaped b = true) := by
  unfold okEq at h
  split at h
  · exact .inl ⟨_, _, rfl, rfl⟩
  · exact .inr (by simpa using h)
/-- a comparison upon data -/
def cmpV (op : CmpOp) (a b : D) : Option Vl := (cmpF op a b).map fun k => .dt (.bool k)
theorem shaped_tuple {ds : List D} (h : SeqAt.shaped (.list ds) = true) : PyData.canLayAll0 ds = true := SeqAt.canLay_of_shaped h
theorem cmp_ok (hu : X.A.units + 65 < cLine) (op : CmpOp) : OpR X (compareOp op) (rD2 X.K (cmpV op)) := by
  intro pins s σ H x y v u Q I rx ry h
  obtain ⟨P, as, μ, a, b, z, w, ha, hb, hg, q⟩ := h
  unfold cmpV at hg
  rw [Option.map_eq_some_iff] at hg
  obtain ⟨k, hg, rfl⟩ := hg
  have qk : Q (.bl k) H := q.dt w (.bl _)
  have hu64 : X.A.units + 64 < cLine := by omega
  have hu0 : X.A.units < cLine := by omega
  have hints : ∀ {ns ms : List Int} {xs ys : List D}, intsOf xs = some ns → intsOf ys = some ms → a = .tuple xs → b = .tuple ys → ∃ p p2, x = .ref p ∧ y = .ref p2 ∧ H p = some (.tup (ns.map V.int)) ∧ H p2 = some (.tup (ms.map V.int)) := fun {ns ms xs ys} h1 h2 e1 e2 => by
    subst e1 e2
    obtain ⟨p, vs, rfl, e1, t1⟩ := ha.tup
    obtain ⟨p2, ws, rfl, e2, t2⟩ := hb.tup
    rw [intsOf_map h1] at t1
    rw [intsOf_map h2] at t2
    rw [t1.ints] at e1
    rw [t2.ints] at e2
    exact ⟨p, p2, rfl, rfl, e1, e2⟩
  unfold cmpF at hg
  split at hg
  · split at hg
    · rename_i hs
      cases hg
      rcases okEq_or hs with ⟨x1, y1, rfl, rfl⟩ | hs
      · rw [ha.str] at rx
        rw [hb.str] at ry
        refine op_eq pins s σ H _ _ v u Q I rx ry ⟨rfl, ?_⟩
        rw [dec_str]
        simpa only [PyData.eqv] using qk
      · exact op_eqD hu64 pins s σ H _ _ v u Q I rx ry ⟨_, _, ha.dp (nd_of hs.1), hb.dp (nd_of hs.2), hs.1, hs.2, qk⟩
    · cases hg
  · split at hg
    · rename_i hs
      cases hg
      rcases okEq_or hs with ⟨x1, y1, rfl, rfl⟩ | hs
      · rw [ha.str] at rx
        rw [hb.str] at ry
        refine op_ne pins s σ H _ _ v u Q I rx ry ⟨rfl, ?_⟩
        rw [dec_str]
        simpa only [PyData.eqv] using qk
      · exact op_neD hu64 pins s σ H _ _ v u Q I rx ry ⟨_, _, ha.dp (nd_of hs.1), hb.dp (nd_of hs.2), hs.1, hs.2, qk⟩
    · cases hg
  · cases hg
    rw [ha.int] at rx
    rw [hb.int] at ry
    exact op_lt pins s σ H _ _ v u Q I rx ry ⟨_, _, rfl, rfl, qk⟩
  · cases hg
    rw [ha.int] at rx
    rw [hb.int] at ry
    exact op_le pins s σ H _ _ v u Q I rx ry ⟨_, _, rfl, rfl, qk⟩
  · cases hg
    rw [ha.int] at rx
    rw [hb.int] at ry
    exact op_gt pins s σ H _ _ v u Q I rx ry ⟨_, _, rfl, rfl, qk⟩
  · cases hg
    rw [ha.int] at rx
    rw [hb.int] at ry
    exact op_ge pins s σ H _ _ v u Q I rx ry ⟨_, _, rfl, rfl, qk⟩
  · cases hg
    rw [ha.str] at rx
    rw [hb.str] at ry
    exact op_lt_str pins s σ H _ _ v u Q I rx ry ⟨_, _, rfl, rfl, qk⟩
  · cases hg
    rw [ha.str] at rx
    rw [hb.str] at ry
    exact op_le_str pins s σ H _ _ v u Q I rx ry ⟨_, _, rfl, rfl, qk⟩
  · cases hg
    rw [ha.str] at rx
    rw [hb.str] at ry
    exact op_gt_str pins s σ H _ _ v u Q I rx ry ⟨_, _, rfl, rfl, qk⟩
  · cases hg
    rw [ha.str] at rx
    rw [hb.str] at ry
    exact op_ge_str pins s σ H _ _ v u Q I rx ry ⟨_, _, rfl, rfl, qk⟩
  · split at hg
    · rename_i h1 h2
      cases hg
      obtain ⟨p, p2, rfl, rfl, e1, e2⟩ := hints h1 h2 rfl rfl
      exact op_ltT hu0 pins s σ H _ _ v u Q I rx ry ⟨_, _, _, _, rfl, rfl, .of e1, .of e2, qk⟩
    · cases hg
  · split at hg
    · rename_i h1 h2
      cases hg
      obtain ⟨p, p2, rfl, rfl, e1, e2⟩ := hints h1 h2 rfl rfl
      exact op_leT hu0 pins s σ H _ _ v u Q I rx ry ⟨_, _, _, _, rfl, rfl, .of e1, .of e2, qk⟩
    · cases hg
  · cases hg
    rw [ha.str] at rx
    rw [hb.str] at ry
    exact op_in_str pins s σ H _ _ v u Q I rx ry ⟨_, _, rfl, rfl, qk⟩
  · cases hg
    rw [ha.str] at rx
    rw [hb.str] at ry
    exact L2.op_notin_str pins s σ H _ _ v u Q I rx ry ⟨_, _, rfl, rfl, qk⟩
  · split at hg
    · rename_i hs
      rw [Bool.and_eq_true] at hs
      cases hg
      exact op_inD hu pins s σ H _ _ v u Q I rx ry ⟨_, _, ha.dp (nd_of hs.1), hb.dp (nd_of hs.2), hs.1, hs.2, qk⟩
    · cases hg
  · split at hg
    · rename_i hs
      rw [Bool.and_eq_true] at hs
      cases hg
      exact op_notInD hu pins s σ H _ _ v u Q I rx ry ⟨_, _, ha.dp (nd_of hs.1), hb.dp (nd_of hs.2), hs.1, hs.2, qk⟩
    · cases hg
  · split at hg
    · rename_i hs
      rw [Bool.and_eq_true] at hs
      cases hg
      obtain ⟨as1, r1⟩ := Dp.reads I _ x v (ha.dp (nd_of hs.1)) rx
      obtain ⟨bs1, r2⟩ := Dp.reads I _ y u (hb.dp (ndl_of hs.2)) ry
      exact SeqAt.in_tuple_reads r2 r1 (shaped_tuple hs.2) (SeqAt.canLay_of_shaped hs.1) (by have := SeqAt.depth_of_shaped hs.1; omega) ⟨.bl _, H, I, rfl, qk⟩
    · cases hg
  · split at hg
    · rename_i hs
      rw [Bool.and_eq_true] at hs
      cases hg
      obtain ⟨as1, r1⟩ := Dp.reads I _ x v (ha.dp (nd_of hs.1)) rx
      obtain ⟨bs1, r2⟩ := Dp.reads I _ y u (hb.dp (ndl_of hs.2)) ry
      exact SeqAt.notIn_tuple_reads r2 r1 (shaped_tuple hs.2) (SeqAt.canLay_of_shaped hs.1) (by have := SeqAt.depth_of_shaped hs.1; omega) ⟨.bl _, H, I, rfl, qk⟩
    · cases hg
  · cases hg
    rw [ha.bl] at rx
    rw [hb.bl] at ry
    exact op_is_bl pins s σ H _ _ v u Q I rx ry ⟨_, _, rfl, rfl, qk⟩
  · cases hg
    rw [ha.bl] at rx
    rw [hb.bl] at ry
    exact op_isnot_bl pins s σ H _ _ v u Q I rx ry ⟨_, _, rfl, rfl, qk⟩
  all_goals first
    | (cases hg; done)
    | (cases hg
       rw [hb.non] at ry
       first
         | exact op_isN pins s σ H _ _ v u Q I rx ry ⟨rfl, by
             first
               | (rw [ha.non]; exact qk)
               | (rw [ha.int]; exact qk)
               | (rw [ha.str]; exact qk)
               | (obtain ⟨p, xs, e, _⟩ := ha.tup; rw [e]; exact qk)
               | (obtain ⟨p, xs, e, _⟩ := ha.list; rw [e]; exact qk)⟩
         | exact op_notN pins s σ H _ _ v u Q I rx ry ⟨rfl, by
             first
               | (rw [ha.non]; exact qk)
               | (rw [ha.int]; exact qk)
               | (rw [ha.str]; exact qk)
               | (obtain ⟨p, xs, e, _⟩ := ha.tup; rw [e]; exact qk)
               | (obtain ⟨p, xs, e, _⟩ := ha.list; rw [e]; exact qk)⟩)
end
end TL
/-! T5a: sorted(tuple of ints), sorted(text) -/
namespace TL
open PySem PySem.Spec PyProof.Rows L2
set_option autoImplicit false
section
variable {prog : Program} {w : World} {A : Around} {E : Value → Shared → Prop} {s : Shared}
theorem collect_tup {l : Addr} {vs : List Value} {Q : List Value → Shared → Prop} (hl : IsTup s.heap l vs.toArray)
    (h : Q vs { s with heap := (s.heap.push (seqObj "list" #[] 0)).update s.heap.objs.size (Obj.mapSeq (· ++ vs.toArray)) }) (hsz : vs.length ≤ sizeLine) :
    wpAny (model prog w) A (collect (.ref l)) Q E s := by
  obtain ⟨o, ho, hc, n, hd⟩ := id hl
  unfold collect
  refine wpAny_bind (wpAny_runValue (codeAny_builtin entry_proto_collect' ?_))
  show wpAny _ _ (do again (.builtin "list.__iadd__" ⟨[← newList [], .ref l], []⟩)) _ _ s
  refine wpAny_bind (wpAny_newList (wpAny_pure ⟨Code.quiet_builtin _ (by decide +kernel), codeAny_builtin entry_list_iadd' ?_⟩))
  show wpAny _ _ (Builtin.List.listExtendWith (.ref s.heap.objs.size) (.ref l) (.ref s.heap.objs.size)) _ _ { s with heap := s.heap.push (seqObj "list" #[] 0) }
  unfold Builtin.List.listExtendWith
  have ho' : (s.heap.push (seqObj "list" #[] 0)).get? l = some o := Heap.get?_push_of_some _ ho
  refine wpAny_bind (wpAny_typeOf (T := "tuple") ⟨o, ho', hc⟩ ?_)
  have ht : (Value.type "tuple" == Value.type "tuple") = true := by rfl
  rw [if_pos (by rw [ht]; simp)]
  refine wpAny_bind (listItems_at ho' hd ?_)
  refine wpAny_bind (listItems_at (xs := #[]) (n := 0) (Heap.get?_push_size _ rfl) rfl ?_)
  rw [if_neg (by simp)]
  refine wpAny_bind (listUpdate_at (xs := #[]) (n := 0) (Heap.get?_push_size _ rfl) rfl ?_ (Nat.zero_le _) (by show (#[] ++ vs.toArray).size ≤ sizeLine + 1; simp only [Array.size_append, List.size_toArray, List.length_nil]; omega))
  refine wpAny_pure ?_
  show wpAny (model prog w) A (do
      let o ← load s.heap.objs.size
      match o.data with
      | .seq xs _ => pure xs.toList
      | _ => unsupported "internal:collect") Q E { s with heap := (s.heap.push (seqObj "list" #[] 0)).update s.heap.objs.size (Obj.mapSeq (· ++ vs.toArray)) }
  refine wpAny_bind (wpAny_load (get?_update_seq (Heap.get?_push_size _ rfl) _) ?_)
  show wpAny _ _ (pure ((#[] : Array Value) ++ vs.toArray).toList) Q E _
  rw [show ((#[] : Array Value) ++ vs.toArray).toList = vs by simp]
  exact wpAny_pure h
theorem sorted_tup {l : Addr} {vs : List Value} {ns : List Int} {Q : Value → Shared → Prop} (hl : IsTup s.heap l vs.toArray) (hI : IntsAre vs ns) (hL : vs.length ≤ sizeLine)
    (h : ∀ (out : Array Value) (ns' : List Int), IntsAre out.toList ns' → ns'.Perm ns → ns'.Pairwise (· ≤ ·) → Q (.ref (s.heap.objs.size + 1)) { s with heap := sortedAll s.heap vs out }) :
    wpAny (model prog w) A (call (.builtin "sorted") [.ref l]) Q E s := by
  refine Calls.call_function_entry kind_sorted plain_sorted entry_sorted (args_sorted1 _) ?_
  unfold Builtin.«sorted»
  refine wpAny_bind (m := checkCount "sorted" 1 1 _) (wpAny_pure ?_)
  refine wpAny_bind (collect_tup hl ?_ hL)
  refine wpAny_bind (wpAny_newList ?_ hL)
  have hsz : ((s.heap.push (seqObj "list" #[] 0)).update s.heap.objs.size (Obj.mapSeq (· ++ vs.toArray))).objs.size = s.heap.objs.size + 1 := by
    rw [Heap.size_update, size_push']
  have hoL : (((s.heap.push (seqObj "list" #[] 0)).update s.heap.objs.size (Obj.mapSeq (· ++ vs.toArray))).push (seqObj "list" vs.toArray 0)).get? (s.heap.objs.size + 1) = some (seqObj "list" vs.toArray 0) := by
    rw [← hsz]; exact Heap.get?_push_size _ rfl
  show wpAny _ _ _ _ _ { s with heap := ((s.heap.push (seqObj "list" #[] 0)).update s.heap.objs.size (Obj.mapSeq (· ++ vs.toArray))).push (seqObj "list" vs.toArray 0) }
  rw [hsz]
  refine wpAny_bind (wpAny_holding (wpAny_call_entry slot_list_sort ⟨_, hoL, rfl⟩ entry_list_sort (list_sort_treeAny hoL hI hL fun out ns' a1 a2 a3 => ⟨_, rfl, ?_⟩) (args_list_sort _)))
  exact wpAny_pure ⟨_, rfl, h out ns' a1 a2 a3⟩
theorem strs_are : ∀ (l : List Nat) (a : List Value), a.length = l.length → (∀ (j : Nat) (v : Value), a[j]? = some v → ∃ (c : Nat) (u : Tok), l[j]? = some c ∧ v = Value.str ⟨#[c]⟩ u) → StrsAre a (l.map fun c => (⟨#[c]⟩ : Str)) := by
  intro l
  induction l with
  | nil =>
    intro a hl _
    cases a with
    | nil => exact .nil
    | cons _ _ => cases hl
  | cons c l ih =>
    intro a hl ha
    cases a with
    | nil => cases hl
    | cons v a =>
      obtain ⟨c', u, e1, e2⟩ := ha 0 v rfl
      cases e1
      subst e2
      exact .cons _ u (ih a (by simpa using hl) fun j w hj => ha (j + 1) w hj)
theorem sorted_txt {x : Str} {t : Tok} {Q : Value → Shared → Prop} (hh : A.handled = none) (hz : x.cps.size < 64)
    (h : ∀ (h1 h' : Heap) (out : Array Value) (ss' : List Str) (tk e : Nat), (∀ b o, s.heap.get? b = some o → h1.get? b = some o) → (∀ b o, h1.get? b = some o → h'.get? b = some o) → h'.get? h1.objs.size = some (seqObj "list" out e) → StrsAre out.toList ss' → ss'.Perm (sgs x) → sortedS ss' = true →
      Q (.ref h1.objs.size) { s with heap := h', toks := tk }) :
    wpAny (model prog w) A (call (.builtin "sorted") [.str x t]) Q E s := by
  refine Calls.call_function_entry kind_sorted plain_sorted entry_sorted (args_sorted1 _) ?_
  unfold Builtin.«sorted»
  refine wpAny_bind (m := checkCount "sorted" 1 1 _) (wpAny_pure ?_)
  refine wpAny_bind (wpAny_collect_str (A := A.in1) hh x t (fun s' acc hk g1 g2 g3 hacc => ?_) (by rw [sizeLine_eq]; omega))
  obtain ⟨h1, gg, dd, tk, oo⟩ := s'
  simp only at hk g1 g2 g3
  subst g1 g2 g3
  have ln : acc.toList.length = x.cps.size := by rw [Array.length_toList]; exact hacc.1
  have hL : acc.toList.length ≤ sizeLine := by rw [ln, sizeLine_eq]; omega
  refine wpAny_bind (wpAny_newList ?_ hL)
  have hS : StrsAre acc.toList (sgs x) := strs_are _ _ (by rw [ln, Array.length_toList]) fun j v hj => by
    obtain ⟨c, u, e1, e2⟩ := hacc.2 j v (by simpa using hj)
    exact ⟨c, u, by simpa using e1, e2⟩
  have hoL : (h1.push (seqObj "list" acc.toList.toArray 0)).get? h1.objs.size = some (seqObj "list" acc.toList.toArray 0) := Heap.get?_push_size _ rfl
  refine wpAny_bind (wpAny_holding (wpAny_call_entry slot_list_sort ⟨_, hoL, rfl⟩ entry_list_sort (list_sort_treeKAny strKind_oneLt hoL hS.keysOf (fun v₁ v₂ rest e => keyKind_strs (by rw [← e]; exact hS)) hL fun st' hp hs => ⟨_, rfl, ?_⟩) (args_list_sort _)))
  obtain ⟨ss', a1, a2, a3⟩ := sorted_out_str hS hp hs
  obtain ⟨e, he⟩ := sortedHeap_at (vs := acc.toList) (out := (arrOf st').map (·.2)) hoL
  refine wpAny_pure ⟨_, rfl, h h1 _ _ ss' _ e hk (fun b o hb => ?_) he a1 a2 a3⟩
  have lt := Heap.lt_size hb
  rw [sortedHeap_old (Nat.ne_of_lt lt) (by rw [size_push']; exact Nat.lt_succ_of_lt lt)]
  exact Heap.get?_push_of_some _ hb
end
section
variable {X : Cx}
theorem cr_sortedTI : CallR X (.builtin "sorted") (fun vs H Q => ∃ (a : Addr) (ns : List Int), vs = [V.ref a] ∧ SqT X.K H a (ns.map V.int) ∧
    ∀ (ns' : List Int) (p : Addr), ns'.Perm ns → ns'.Pairwise (· ≤ ·) → H p = none → Q (.ref p) (upd H p (.lst (ns'.map V.int)))) := by
  intro pins s σ H vs us Q I r h
  obtain ⟨a, ns, rfl, hs, q⟩ := h
  obtain ⟨its, rv, hl, hz⟩ := I.tuple hs
  rw [Vals.ref1 r]
  have hi := rv.ints
  refine sorted_tup hl hi (by rw [← rv.length]; exact hz) fun out ns' k1 k2 k3 => ?_
  obtain ⟨ep, he'⟩ := PyProof.Rows.sortedAll_at s.heap its out
  have hlen : (ns'.map V.int).length ≤ sizeLine := by
    rw [List.length_map, k2.length_eq]
    rw [List.length_map] at hz
    exact hz
  exact ⟨.ref _, upd H (s.heap.objs.size + 1) (.lst (ns'.map V.int)), I.laid (t' := s.toks) (fun _ _ => PyProof.Rows.sortedAll_old) (Nat.le_succ _) ⟨hlen, out.toList, ep, vals_of_ints k1, he'⟩, rfl, q _ _ k2 k3 (I.hok.fresh (Nat.le_succ _))⟩
theorem cr_sortedX (hh : X.A.handled = none) : CallR X (.builtin "sorted") (fun vs H Q => ∃ x : Str, vs = [.str x] ∧ x.length < 64 ∧
    ∀ (ys : List Str) (p : Addr), ys.Perm (sgs x) → sortedS ys = true → H p = none → Q (.ref p) (upd H p (.lst (ys.map V.str)))) := by
  intro pins s σ H vs us Q I r h
  obtain ⟨x, rfl, hz, q⟩ := h
  obtain ⟨u, rfl, t, rfl⟩ := vals1 r
  refine sorted_txt hh hz fun h1 h' out ss' tk e k1 k2 he a1 a2 a3 => ?_
  have I1 : L2.Inv X pins σ H { s with heap := h1, toks := tk } := I.kept (t' := tk) k1
  have hlen : (ss'.map V.str).length ≤ sizeLine := by
    rw [List.length_map, a2.length_eq, sizeLine_eq]
    show (x.cps.toList.map _).length ≤ _
    rw [List.length_map, Array.length_toList]
    have : x.cps.size < 64 := hz
    omega
  exact ⟨.ref _, upd H h1.objs.size (.lst (ss'.map V.str)), I1.laid (t' := tk) k2 (Nat.le_refl _) ⟨hlen, out.toList, e, vals_of_strs a1, he⟩, rfl, q _ _ a2 a3 (I1.hok.fresh (Nat.le_refl _))⟩
end
end TL
/-! T5b: sorted(list of tuples of ints) -/
namespace TL
open PySem PySem.Spec PyProof.Rows L2
set_option autoImplicit false
/-- a row as data -/
abbrev rwD (b : V × List Int) : PyData := .tuple (b.2.map .int)
theorem reads_ints {h : Heap} : ∀ {ns : List Int} {us : List Value}, Vals (ns.map V.int) us → ∃ as, ReadsAll h us (ns.map PyData.int) as
  | [], us, r => by
    rw [List.map_nil] at r
    cases r
    exact ⟨[], .nil⟩
  | n :: ns, us, r => by
    rw [List.map_cons] at r
    cases r with
    | cons r1 r2 =>
      obtain ⟨t, rfl⟩ := r1
      obtain ⟨as, h2⟩ := reads_ints (h := h) r2
      exact ⟨[] ++ as, .cons (.int _ _) h2⟩
theorem each_rows {h : Heap} : ∀ {bs : List (V × List Int)} {us : List Value}, Vals (bs.map (·.1)) us → (∀ b ∈ bs, ∀ u, RelV b.1 u → ∃ as, Reads h u (rwD b) as) → PySem.W.EachIs (fun u b => RelV b.1 u ∧ ∃ as, Reads h u (rwD b) as) us bs
  | [], us, r, _ => by
    rw [List.map_nil] at r
    cases r
    exact .nil
  | b :: bs, us, r, hb => by
    rw [List.map_cons] at r
    cases r with
    | cons r1 r2 => exact .cons ⟨r1, hb b (List.mem_cons_self ..) _ r1⟩ (each_rows r2 fun c hc => hb c (List.mem_cons_of_mem _ hc))
theorem vals_each : ∀ {us : List Value} {bs : List (V × List Int)}, PySem.W.EachIs (fun u b => RelV b.1 u) us bs → Vals (bs.map (·.1)) us
  | _, _, .nil => .nil
  | _, _, .cons r t => .cons r (vals_each t)
theorem dataLe_tups : PySem.W.dataLe false rwD = fun p q => decide (p.2 ≤ q.2) := by
  funext p q
  show (!PySem.W.dataLt (.tuple (q.2.map .int)) (.tuple (p.2.map .int))) = _
  rw [PySem.W.dataLt_tuple]
  show (!PySem.W.rowLt (q.2.map .int) (p.2.map .int)) = _
  rw [PySem.W.dataLt_ints]
  by_cases h : q.2 < p.2
  · have h' : ¬ p.2 ≤ q.2 := fun r => List.not_lt.mpr r h
    simp [h, h']
  · have h' : p.2 ≤ q.2 := List.not_lt.mp h
    simp [h, h']
theorem alike_tups {bs : List (V × List Int)} : PySem.W.AllAlike (bs.map rwD) := PySem.W.AllAlike.of fun b b' => by
  show PySem.W.alike (.tuple _) (.tuple _) = true
  simp only [PySem.W.alike]
  exact PySem.W.alike_ints _ _
theorem depth_tup (b : V × List Int) : (rwD b).depth = 1 := by
  show (PyData.tuple _).depth = 1
  simp only [PyData.depth]
  rw [PySem.W.depth_ints]
section
variable {prog : Program} {w : World} {A : Around} {E : Value → Shared → Prop} {s : Shared}
/-- an empty tuple alone -/
theorem sorts_unit {v : Value} {as : List Addr} (r : Reads s.heap v (.tuple []) as) (hu : A.units + 1 < cLine) : PySem.W.SortsAt prog w A s (PySem.W.dataKind s.heap [.tuple []]) [v] := by
  have hal : PySem.W.AllAlike [.tuple []] := by
    intro d hd d' hd'
    simp only [List.mem_singleton] at hd hd'
    rw [hd, hd']
    simp [PySem.W.alike, PySem.W.alikeAll]
  refine ⟨fun u hu => ?_, tuples' true, fun E x y a b Q ha hb hq => ?_, fun h2 => absurd h2 (by simp)⟩
  · simp only [List.mem_singleton] at hu
    rw [hu]
    exact ⟨_, PySem.W.dataKind_some hal (List.mem_singleton.mpr rfl) r⟩
  · obtain ⟨d, as, hd, ra, rfl⟩ := PySem.W.dataKind_inv ha
    obtain ⟨d', as', hd', rb, rfl⟩ := PySem.W.dataKind_inv hb
    simp only [List.mem_singleton] at hd hd'
    subst hd hd'
    have hq' : Q (PySem.W.dataLt (.tuple []) (.tuple [])) s := hq
    rw [PySem.W.dataLt_tuple] at hq'
    cases ra with
    | @tuple l o xs n _ _ h1 h2 h3 h4 =>
      cases rb with
      | @tuple l' o' xs' n' _ _ k1 k2 k3 k4 =>
        have n1 : xs.size = ([] : List PyData).length := by simpa using SeqAt.ReadsAll.length _ _ _ h4
        have n2 : xs'.size = ([] : List PyData).length := by simpa using SeqAt.ReadsAll.length _ _ _ k4
        exact PySem.W.kat_lt h1 h3 k1 k3 (PySem.W.katLex_alike [] [] 0 _ _ _ _ h4 k4 (by simp [PySem.W.alikeAll]) (by simp [PyData.depthAll]; omega) (fun _ _ x r t ex => by cases ex) (by rw [n1, n2]) hq')
/-- sorted(list of tuples of ints) -/
theorem sorted_rows {l : Addr} {vs : List Value} {bs : List (V × List Int)} {Q : Value → Shared → Prop} (hl : s.heap.IsList l vs.toArray) (e : PySem.W.EachIs (fun u b => RelV b.1 u ∧ ∃ as, Reads s.heap u (rwD b) as) vs bs)
    (hn : (∀ b ∈ bs, b.2 ≠ []) ∨ bs.length ≤ 1) (hL : bs.length ≤ sizeLine) (hu : A.units + 10 < cLine)
    (h : ∀ out, out.length = bs.length → PySem.W.EachIs (fun u b => RelV b.1 u) out (bs.mergeSort (PySem.W.dataLe false rwD)) → Q (.ref (s.heap.objs.size + 1)) { s with heap := sortedAll s.heap vs (List.toArray out) }) :
    wpAny (model prog w) A (call (.builtin "sorted") [.ref l]) Q E s := by
  by_cases hn' : ∀ b ∈ bs, b.2 ≠ []
  · refine PySem.W.sorted_data (enc := rwD) hl (e.mono fun _ _ q => q.1) (e.mono fun _ _ q => q.2) alike_tups (.inl fun d hd => ?_) hL (fun b _ => by rw [depth_tup]; omega) h
    obtain ⟨b, hb, rfl⟩ := List.mem_map.mp hd
    have := hn' b hb
    show ∃ x r, PyData.tuple (b.2.map .int) = .tuple (x :: r)
    cases q : b.2 with
    | nil => exact absurd q this
    | cons x r => exact ⟨_, _, rfl⟩
  · have hle := hn.resolve_left hn'
    cases e with
    | nil => exact absurd (fun b hb => by cases hb) hn'
    | @cons u b us cs r1 t =>
      have hz : cs = [] := by
        cases cs with
        | nil => rfl
        | cons _ _ => simp at hle
      subst hz
      cases t
      have hb : b.2 = [] := by
        by_cases q : b.2 = []
        · exact q
        · exact absurd (fun c hc => by rw [List.mem_singleton.mp hc]; exact q) hn'
      obtain ⟨rv, as, rd⟩ := r1
      have rd' : Reads s.heap u (.tuple []) as := by
        have := rd
        simp only [rwD, hb, List.map_nil] at this
        exact this
      have rd2 : Reads (PySem.W.sortingHeap (PySem.W.copyHeap s.heap [u]) (s.heap.objs.size + 1) [u]) u (.tuple []) as := PyProof.Rows.Reads.keeps (fun _ _ => PySem.W.sorting_copy_old) rd'
      have e1 : PySem.W.EachIs (fun v (b : V × List Int) => RelV b.1 v) [u] [b] := .cons rv .nil
      have e2 : PySem.W.EachIs (fun v (b : V × List Int) => ∃ as, Reads (PySem.W.sortingHeap (PySem.W.copyHeap s.heap [u]) (s.heap.objs.size + 1) [u]) v (rwD b) as) [u] [b] := .cons ⟨as, by simp only [rwD, hb, List.map_nil]; exact rd2⟩ .nil
      have sd := PySem.W.sortVals_data false e1 e2 alike_tups
      have ek : [b].map rwD = [.tuple []] := by simp [rwD, hb]
      rw [ek] at sd
      exact PySem.W.sorted_vals hl (sorts_unit (A := A.in1.in1) (s := { s with heap := PySem.W.sortingHeap (PySem.W.copyHeap s.heap [u]) (s.heap.objs.size + 1) [u] }) rd2 (by show A.units + 2 + 1 < _; omega)) (by simpa using hL)
        (h _ (by rw [PySem.W.sortVals_length false rfl]; rfl) sd)
end
section
variable {X : Cx}
theorem cr_sortedTs (hu : X.A.units + 100 < cLine) : CallR X (.builtin "sorted") (fun ws H Q => ∃ (a : Addr) (bs : List (V × List Int)), ws = [V.ref a] ∧ SqL X.K H a (bs.map (·.1)) ∧ (∀ b ∈ bs, ∃ t, b.1 = V.ref t ∧ H t = some (.tup (b.2.map V.int))) ∧
    ((∀ b ∈ bs, b.2 ≠ []) ∨ bs.length ≤ 1) ∧ ∀ (cs : List (V × List Int)) (p : Addr), cs.Perm bs → cs.Pairwise (fun x y => x.2 ≤ y.2) → H p = none → Q (.ref p) (upd H p (.lst (cs.map (·.1))))) := by
  intro pins s σ H xs us Q I r h
  obtain ⟨a, bs, rfl, hs, hb, hn, q⟩ := h
  obtain ⟨its, rv, hl, hz⟩ := I.list hs
  obtain ⟨u, rfl, ru⟩ := vals1 r
  obtain rfl : u = Value.ref a := ru
  have e := each_rows (h := s.heap) rv fun b hb' u ru => by
    obtain ⟨t, e1, ht⟩ := hb b hb'
    rw [e1] at ru
    obtain rfl : u = Value.ref t := ru
    obtain ⟨_, its2, r2, o, ho, hc, n, hd⟩ := I.hok _ _ ht
    obtain ⟨as, ra⟩ := reads_ints (h := s.heap) r2
    exact ⟨as, .tuple ho hc hd ra⟩
  rw [List.length_map] at hz
  refine sorted_rows (A := X.A) hl.isList e hn hz (by omega) fun out ho eo => ?_
  have hle := dataLe_tups
  rw [hle] at eo
  obtain ⟨ep, he'⟩ := PyProof.Rows.sortedAll_at s.heap its out.toArray
  have hp : (bs.mergeSort fun p q => decide (p.2 ≤ q.2)).Perm bs := List.mergeSort_perm ..
  refine ⟨.ref _, upd H (s.heap.objs.size + 1) (.lst ((bs.mergeSort fun p q => decide (p.2 ≤ q.2)).map (·.1))), I.laid (t' := s.toks) (fun _ _ => PyProof.Rows.sortedAll_old) (Nat.le_succ _) ⟨by rw [List.length_map, hp.length_eq]; exact hz, out, ep, vals_each eo, by simpa using he'⟩, rfl, q _ _ hp ?_ (I.hok.fresh (Nat.le_succ _))⟩
  have := List.pairwise_mergeSort (le := fun (p q : V × List Int) => decide (p.2 ≤ q.2)) (fun a b c h1 h2 => by
    simp only [decide_eq_true_eq] at *
    exact List.le_trans h1 h2) (fun a b => by
    simp only [Bool.or_eq_true, decide_eq_true_eq]
    exact List.le_total _ _) bs
  exact this.imp fun h => by simpa using h
end
/-- the signs at a stretch of places -/
theorem pick_rng (xs : Array Nat) : ∀ (n a : Nat), (List.range' a n).filterMap (xs[·]?) = (xs.toList.drop a).take n
  | 0, a => by simp
  | n + 1, a => by
    have ih := pick_rng xs n (a + 1)
    rw [List.range'_succ, List.filterMap_cons, ih]
    by_cases h : a < xs.size
    · have e := List.drop_eq_getElem_cons (l := xs.toList) (i := a) (by simpa using h)
      rw [Array.getElem?_eq_getElem h, e, List.take_succ_cons]
      simp
    · rw [Array.getElem?_eq_none (by omega), List.drop_of_length_le (by simp; omega), List.drop_of_length_le (by simp; omega)]
      simp
theorem down_rng (a c n : Nat) (h : c + a = n) : (List.range c).map (fun k => n - 1 - k) = (List.range' a c).reverse := by
  refine List.ext_getElem (by simp) fun k h1 h2 => ?_
  simp only [List.length_map, List.length_range] at h1
  rw [List.getElem_reverse, List.getElem_range', List.getElem_map, List.getElem_range, List.length_range']
  omega
theorem pick_go {α : Type} (xs : Array α) : ∀ (n a : Nat), (List.range' a n).filterMap (xs[·]?) = (xs.toList.drop a).take n
  | 0, a => by simp
  | n + 1, a => by
    have ih := pick_go xs n (a + 1)
    rw [List.range'_succ, List.filterMap_cons, ih]
    by_cases h : a < xs.size
    · have e := List.drop_eq_getElem_cons (l := xs.toList) (i := a) (by simpa using h)
      rw [Array.getElem?_eq_getElem h, e, List.take_succ_cons]
      simp
    · rw [Array.getElem?_eq_none (by omega), List.drop_of_length_le (by simp; omega), List.drop_of_length_le (by simp; omega)]
      simp
/-- tuple[::-1] -/
theorem rev_pick (xs : Array Value) : ((List.range xs.size).filterMap fun (k : Nat) => xs[(((xs.size : Int) - 1) + (k : Int) * (-1)).toNat]?) = xs.toList.reverse := by
  have e : (fun (k : Nat) => xs[(((xs.size : Int) - 1) + (k : Int) * (-1)).toNat]?) = (xs[·]?) ∘ fun k => xs.size - 1 - k := by
    funext k
    show _ = xs[xs.size - 1 - k]?
    congr 1
    omega
  rw [e, ← List.filterMap_map, down_rng 0 xs.size xs.size (by omega), List.filterMap_reverse]
  have e2 : (List.range' 0 xs.size).filterMap (xs[·]?) = xs.toList := by
    have := pick_go xs xs.size 0
    rw [this, List.drop_zero]
    exact List.take_of_length_le (by simp)
  rw [e2]
section
variable {prog : Program} {w : World} {A : Around} {E : Value → Shared → Prop} {s : Shared}
theorem sliceApplied_rev {sl : Addr} {n : Nat} {tt : Tok} {Q : Int × Int × Nat → Shared → Prop} (hs : s.heap.IsSliceOf sl .none .none (.int (-1) tt)) (h : Q (((n : Int) - 1), -1, n) s) :
    wpAny (model prog w) A (Builtin.Slice.sliceApplied (.ref sl) (pure (n : Int))) Q E s := by
  obtain ⟨os, hos, hcs, hds⟩ := id hs
  unfold Builtin.Slice.sliceApplied Builtin.Slice.sliceFields
  refine wpAny_bind (wpAny_bind (wpAny_field hos hds (x := .none) rfl (wpAny_bind (wpAny_field hos hds (x := .none) rfl (wpAny_bind (wpAny_field hos hds (x := .int (-1) tt) rfl (wpAny_pure ?_)))))))
  refine wpAny_bind (HT.slicePart_ (.int (-1) tt) ?_)
  show wpAny _ _ (if ((-1 : Int) == 0) = true then _ else _) _ _ s
  rw [if_neg (by decide)]
  refine wpAny_bind (HT.slicePart_ .none (wpAny_bind (HT.slicePart_ .none (wpAny_bind (wpAny_pure ?_)))))
  have e1 : Builtin.Slice.sliceAdjust none none (-1) (n : Int) = ((n : Int) - 1, -1) := by
    unfold Builtin.Slice.sliceAdjust
    rfl
  have e2 : Builtin.Slice.slicePlaces ((n : Int) - 1) (-1) (-1) = n := by
    unfold Builtin.Slice.slicePlaces
    rw [if_neg (by omega), show -(-1 : Int) = 1 from rfl, Int.ediv_one]
    split <;> omega
  show wpAny _ _ (match Builtin.Slice.sliceAdjust none none (-1) (n : Int) with | (lo, hi) => pure (lo, (-1 : Int), Builtin.Slice.slicePlaces lo hi (-1))) _ _ s
  rw [e1]
  show wpAny _ _ (pure ((n : Int) - 1, (-1 : Int), Builtin.Slice.slicePlaces ((n : Int) - 1) (-1) (-1))) _ _ s
  rw [e2]
  exact wpAny_pure h
theorem getItem_tuple_rev {t sl : Addr} {items : Array Value} {tt : Tok} {Q : Value → Shared → Prop} (ht : IsTup s.heap t items) (hs : s.heap.IsSliceOf sl .none .none (.int (-1) tt))
    (h : Q (.ref s.heap.objs.size) { s with heap := s.heap.push { cls := .type "tuple", data := .seq items.toList.reverse.toArray } }) (hsz : items.size ≤ sizeLine) : wpAny (model prog w) A (getItem (.ref t) (.ref sl)) Q E s := by
  have htake : sizeOk (.seq items.toList.reverse.toArray) := by
    show items.toList.reverse.toArray.size ≤ sizeLine
    rw [List.size_toArray, List.length_reverse, Array.length_toList]
    exact hsz
  obtain ⟨os, hos, hcs, hds⟩ := id hs
  have hTs : s.TypeIs (.ref sl) "slice" := ⟨os, hos, hcs⟩
  unfold getItem
  try with_reducible refine wpAny_holding ?_
  first | refine wpAny_bind (wpAny_pure ?_) | skip
  refine wpAny_bind (wpAny_sequenceKey ht.typeIs (by decide) ?_)
  refine wpAny_bind (wpAny_callSpecial?_slot (name := Str.ofString "__getitem__") ht.typeIs slot_tuple_getitem
    (wpAny_call_entry slot_tuple_getitem ht.typeIs entry_tuple_getitem ?_ (args_tuple_getitem _ _)))
  show wpAny _ _ (Builtin.Tuple.tupleItemsOf (.ref t) >>= _) _ _ s
  refine wpAny_bind (tupleItemsOf_ ht ?_)
  refine wpAny_bind (wpAny_typeOf hTs ?_)
  rw [if_pos (by decide)]
  refine wpAny_bind (sliceApplied_rev hs ?_)
  have hno : ¬ ((((items.size : Int) - 1) == 0 && (-1 : Int) == 1 && items.size == items.size) = true) := by
    intro q
    rw [Bool.and_eq_true, Bool.and_eq_true] at q
    exact absurd q.1.2 (by decide)
  show wpAny _ _ (if (((items.size : Int) - 1) == 0 && (-1 : Int) == 1 && items.size == items.size) = true then _ else _) _ _ s
  rw [if_neg hno, rev_pick]
  first
    | exact wpAny_bind (m := Builtin.Tuple.tupleExact _) (wpAny_newObj_type (wpAny_pure ⟨_, rfl, wpAny_pure h⟩) htake)
    | exact wpAny_bind (m := Builtin.Tuple.tupleExact _) (wpAny_newObj_type (wpAny_bind (wpAny_pure (wpAny_pure ⟨_, rfl, wpAny_pure h⟩))) htake)
    | exact wpAny_bind (wpAny_bind (m := Builtin.Tuple.tupleExact _) (wpAny_newObj_type (wpAny_pure (wpAny_pure ⟨_, rfl, wpAny_pure h⟩)) htake))
    | exact wpAny_bind (wpAny_bind (m := Builtin.Tuple.tupleExact _) (wpAny_newObj_type (wpAny_pure ⟨_, rfl, wpAny_pure h⟩) htake))
end
end TL
/-! T5: built-ins, subscripts, slices, methods upon data -/
namespace TL
open PySem PySem.Spec L2
open PyProof.Rows (subscriptTail)
set_option autoImplicit false
section
variable {X : Cx} {P : Addr → Prop} {H : Hp} {as : List Addr} {μ : Mu}
theorem DvAll.one {vs : List V} {d : D} (h : DvAll P H as μ vs [d]) : ∃ v, vs = [v] ∧ Dv P H as μ v d := by
  cases h with
  | cons a t =>
    cases t
    exact ⟨_, rfl, a⟩
theorem DvAll.two {vs : List V} {d e : D} (h : DvAll P H as μ vs [d, e]) : ∃ v w, vs = [v, w] ∧ Dv P H as μ v d ∧ Dv P H as μ w e := by
  cases h with
  | cons a t =>
    obtain ⟨w, rfl, b⟩ := DvAll.one t
    exact ⟨_, _, rfl, a, b⟩
/-- min of two texts -/
theorem cmpS_lt {prog : Program} {w : World} {A : Around} {Pr : Nat → Value → Prop} (val : Nat → Str) (hval : ∀ i v, Pr i v → ∃ t, v = .str (val i) t) :
    CmpOf prog w A .Lt Pr (fun i j => ltS (val i) (val j)) := fun i j vi vj s Q E hi hj h => by
  obtain ⟨t, rfl⟩ := hval i vi hi
  obtain ⟨u, rfl⟩ := hval j vj hj
  exact richCompare_gives (op := .Lt) (typeIs_str s _ t) (typeIs_str s _ u) F.slot_str_lt F.entry_str_lt (F.args_str_lt_2 _ _) (gives_str_lt _ _ t u) (fun x => nomatch x) h
theorem min_two_strs {prog : Program} {w : World} {A : Around} {E : Value → Shared → Prop} {s : Shared} {a b : Str} {t u : Tok} {Q : Value → Shared → Prop} (hh : A.handled = none)
    (h : ∀ h' tk, (∀ c o, s.heap.get? c = some o → h'.get? c = some o) → Q (if ltS b a then .str b u else .str a t) { s with heap := h', toks := tk }) :
    wpAny (model prog w) A (call (.builtin "min") [.str a t, .str b u]) Q E s := by
  have hT : (s.heap.push { cls := .type "tuple", data := .seq #[.str a t, .str b u] }).IsTuple s.heap.objs.size #[.str a t, .str b u] := ⟨_, Heap.get?_push_size _ rfl, rfl, 0, rfl⟩
  refine call_min_two (wpAny_pyIter_tuple hT ?_)
  have hsz : (s.heap.push { cls := .type "tuple", data := .seq #[.str a t, .str b u] }).objs.size = s.heap.objs.size + 1 := Heap.size_push ..
  refine ⟨_, [_, s.heap.objs.size], [_], _, _, _, _, rfl, Walks.tuple (A := A.in1) hh _ s.heap.objs.size (by rw [hsz]; exact Nat.ne_of_lt (Nat.lt_succ_self _)) #[.str a t, .str b u],
    ⟨⟨_, Heap.get?_push_size _ rfl, rfl, rfl⟩, hT.push _⟩, fun c hc => ?_, by simp, cmpS_lt (fun i => if i = 0 then a else b) (fun i v hv => ?_), fun v h' tk hP hk => ?_⟩
  · show c < ((s.heap.push _).push _).objs.size
    rw [Heap.size_push, hsz]
    rcases List.mem_cons.mp hc with rfl | hc
    · rw [hsz]; exact Nat.lt_succ_self _
    · rcases List.mem_cons.mp hc with rfl | hc
      · exact Nat.lt_succ_of_lt (Nat.lt_succ_self _)
      · cases hc
  · match i, hv with
    | 0, hv => exact ⟨t, by simpa using hv.symm⟩
    | 1, hv => exact ⟨u, by simpa using hv.symm⟩
    | i + 2, hv => simp at hv
  · have hold : ∀ c o, s.heap.get? c = some o → h'.get? c = some o := fun c o e => by
      refine hk c o (fun hm => ?_) (Heap.get?_push_of_some _ (Heap.get?_push_of_some _ e))
      rcases List.mem_cons.mp hm with e1 | hm
      · have := Heap.lt_size e; rw [e1, hsz] at this; exact Nat.lt_irrefl _ (Nat.lt_of_succ_lt this)
      · cases hm
    have := h h' tk hold
    have hv : v = if ltS b a then Value.str b u else Value.str a t := by
      have hP' : (#[Value.str a t, Value.str b u])[argBest (fun i j => ltS (if i = 0 then a else b) (if j = 0 then a else b)) 1]? = some v := hP
      by_cases hba : ltS b a = true
      · have e : argBest (fun i j => ltS (if i = 0 then a else b) (if j = 0 then a else b)) 1 = 1 := by simp [argBest, hba]
        rw [e] at hP'
        simpa [hba] using hP'.symm
      · have e : argBest (fun i j => ltS (if i = 0 then a else b) (if j = 0 then a else b)) 1 = 0 := by simp [argBest, hba]
        rw [e] at hP'
        simpa [hba] using hP'.symm
    rw [hv]; exact this
theorem call_min2S (hc : X.calm = true) : CallR X (.builtin "min") (fun xs H Q => ∃ x y : Str, xs = [.str x, .str y] ∧ Q (.str (if ltS y x then y else x)) H) := by
  intro pins s σ H xs us Q I r h
  obtain ⟨i, j, rfl, q⟩ := h
  obtain ⟨u, w', rfl, ⟨t, rfl⟩, ⟨t', rfl⟩⟩ := vals2 r
  refine min_two_strs (I.ok.hd hc) fun h' tk k => ⟨_, H, I.kept k, ?_, q⟩
  by_cases hj : ltS j i = true
  · rw [if_pos hj, if_pos hj]; exact ⟨_, rfl⟩
  · rw [if_neg hj, if_neg hj]; exact ⟨_, rfl⟩
/-- min of a list of texts -/
theorem call_minLS (hc : X.calm = true) (hu : X.A.units + 100 < cLine) : CallR X (.builtin "min") (fun xs H Q => ∃ (p : Addr) (x : Str) (r : List Str), xs = [.ref p] ∧ SqL X.K H p ((x :: r).map V.str) ∧ Q (.str (r.foldl (fun a y => if ltS y a = true then y else a) x)) H) := by
  intro pins s σ H xs us Q I r h
  obtain ⟨p, x, rr, rfl, e, q⟩ := h
  obtain ⟨u, rfl, ru⟩ := vals1 r
  cases ru
  obtain ⟨its, ri, ht, hz⟩ := I.list e
  have ra : ∀ {xs : List Str} {us : List Value}, Vals (xs.map V.str) us → ReadsAll s.heap us (xs.map PyData.str) [] := fun {xs} => by
    induction xs with
    | nil => intro us r; cases r; exact .nil
    | cons x xs ih =>
      intro us r
      cases r with
      | cons r1 r2 =>
        obtain ⟨t, rfl⟩ := r1
        exact ReadsAll.cons (.str _ _) (ih r2)
  refine PySem.W.min_list_datum (α := Str) (x := x) (xs := rr) (I.ok.hd hc) ht.isList ⟨_, ra ri⟩ (by show X.A.units + 1 + 0 < cLine; omega) fun i v h' tk hi hv k => ?_
  obtain ⟨as, hv⟩ := hv
  cases hv with
  | str _ t => exact ⟨.str _, H, I.kept k, ⟨t, rfl⟩, q⟩
/-- list(text) -/
theorem call_list_txt (hh : X.A.handled = none) : CallR X (.type "list") (fun xs H Q => ∃ x : Str, xs = [.str x] ∧ x.length ≤ 1000 ∧ ∀ p, H p = none → Q (.ref p) (upd H p (.lst (x.cps.toList.map fun c => .str ⟨#[c]⟩)))) := by
  intro pins s σ H xs us Q I r h
  obtain ⟨x, rfl, hz, q⟩ := h
  obtain ⟨u, rfl, t, rfl⟩ := vals1 r
  have hx : x.cps.size ≤ 1000 := hz
  refine PySem.call_list_str hh x t (fun h' tk acc c hk hS hacc => ?_) (by rw [sizeLine_eq]; omega)
  obtain ⟨hs, hi⟩ := hacc
  refine ⟨.ref _, _, I.laid (t' := tk) (o := .lst (x.cps.toList.map fun c => .str ⟨#[c]⟩)) hk (Nat.le_refl _) ?_, rfl, q _ I.fresh⟩
  refine ⟨by rw [List.length_map, Array.length_toList, sizeLine_eq]; omega, acc.toList, c, ?_, by simpa using hS⟩
  have go : ∀ (l : List Nat) (a : List Value), a.length = l.length → (∀ (j : Nat) (v : Value), a[j]? = some v → ∃ (c : Nat) (u : Tok), l[j]? = some c ∧ v = Value.str ⟨#[c]⟩ u) → Vals (l.map fun c => V.str ⟨#[c]⟩) a := by
    intro l
    induction l with
    | nil =>
      intro a hl _
      cases a with
      | nil => exact .nil
      | cons _ _ => cases hl
    | cons c l ih =>
      intro a hl ha
      cases a with
      | nil => cases hl
      | cons v a =>
        obtain ⟨c', u, e1, e2⟩ := ha 0 v rfl
        cases e1
        exact .cons ⟨u, e2⟩ (ih a (by simpa using hl) fun j w hj => ha (j + 1) w hj)
  refine go _ _ (by rw [Array.length_toList, Array.length_toList]; exact hs) fun j v hj => ?_
  obtain ⟨c, u, e1, e2⟩ := hi j v (by simpa using hj)
  exact ⟨c, u, by simpa using e1, e2⟩
/-- repr of data -/
theorem repr_ok (hg : X.A.guards = some []) (hu : X.A.units + 100 < cLine) : CallR X (.builtin "repr") (fun xs H Q => ∃ x d, xs = [x] ∧ Dp X.K H x d ∧ d.showable = true ∧ d.depth ≤ 60 ∧ d.shown.length ≤ sizeLine ∧ d.hasDict = false ∧ Q (.str d.shown) H) := by
  intro pins s σ H xs us Q I r h
  obtain ⟨x, d, rfl, hd, h1, h2, h3, h4, q⟩ := h
  obtain ⟨u, rfl, ru⟩ := vals1 r
  obtain ⟨as, rd⟩ := Dp.reads I d x u hd ru
  cases rd with
  | none => exact PySem.P.repr_of_none ⟨.str _, H, I.tok _, ⟨_, rfl⟩, q⟩
  | bool b => exact PySem.P.repr_of_bool ⟨.str _, H, I.tok _, ⟨_, rfl⟩, q⟩
  | int i t => exact PySem.P.repr_of_int (by simpa [PyData.showable] using h1) ⟨.str _, H, I.tok _, ⟨_, rfl⟩, q⟩
  | str z t => exact PySem.P.repr_of_str ⟨.str _, H, I.tok _, ⟨_, rfl⟩, q⟩ h3
  | list e1 e2 e3 e4 =>
    refine repr_of_reads' (h₀ := s.heap) (.list e1 e2 e3 e4) h1 (PyData.noDict_hsm h4) hg (by omega) (fun _ _ e => e) (fun h' u tk hk => ?_) h3
    exact ⟨.str _, H, I.kept hk, ⟨_, rfl⟩, q⟩
  | tuple e1 e2 e3 e4 =>
    refine repr_of_reads' (h₀ := s.heap) (.tuple e1 e2 e3 e4) h1 (PyData.noDict_hsm h4) hg (by omega) (fun _ _ e => e) (fun h' u tk hk => ?_) h3
    exact ⟨.str _, H, I.kept hk, ⟨_, rfl⟩, q⟩
  | dict e1 e2 e3 e4 e5 => cases hd

theorem ins_perm {α : Type} (le : α → α → Bool) (x : α) : ∀ l : List α, (insB le x l).Perm (x :: l)
  | [] => .refl _
  | y :: r => by
    unfold insB
    split
    · exact .refl _
    · exact ((ins_perm le x r).cons y).trans (.swap x y r)
theorem srt_perm {α : Type} (le : α → α → Bool) : ∀ l : List α, (srtB le l).Perm l
  | [] => .refl _
  | x :: r => (ins_perm le x _).trans ((srt_perm le r).cons x)
theorem ins_pw {α : Type} {le : α → α → Bool} (tot : ∀ a b, le a b = false → le b a = true) (tr : ∀ a b c, le a b = true → le b c = true → le a c = true) (x : α) : ∀ l : List α, l.Pairwise (fun a b => le a b = true) → (insB le x l).Pairwise (fun a b => le a b = true)
  | [], _ => List.pairwise_singleton _ _
  | y :: r, h => by
    unfold insB
    obtain ⟨h1, h2⟩ := List.pairwise_cons.mp h
    split
    · rename_i q
      refine List.pairwise_cons.mpr ⟨fun z hz => ?_, h⟩
      rcases List.mem_cons.mp hz with rfl | hz
      · exact q
      · exact tr _ _ _ q (h1 z hz)
    · rename_i q
      refine List.pairwise_cons.mpr ⟨fun z hz => ?_, ins_pw tot tr x r h2⟩
      rcases List.mem_cons.mp ((ins_perm le x r).mem_iff.mp hz) with rfl | hz
      · exact tot _ _ (by simpa using q)
      · exact h1 z hz
theorem srt_pw {α : Type} {le : α → α → Bool} (tot : ∀ a b, le a b = false → le b a = true) (tr : ∀ a b c, le a b = true → le b c = true → le a c = true) : ∀ l : List α, (srtB le l).Pairwise (fun a b => le a b = true)
  | [] => .nil
  | x :: r => ins_pw tot tr x _ (srt_pw tot tr r)
/-- there is just one sorted list -/
theorem srt_uniq {α : Type} {le : α → α → Bool} (tot : ∀ a b, le a b = false → le b a = true) (tr : ∀ a b c, le a b = true → le b c = true → le a c = true) (an : ∀ a b, le a b = true → le b a = true → a = b) {l m : List α} (hp : m.Perm l) (hs : m.Pairwise (fun a b => le a b = true)) : m = srtB le l :=
  List.Perm.eq_of_pairwise (le := fun a b => le a b = true) (fun a b _ _ h1 h2 => an a b h1 h2) hs (srt_pw tot tr l) (hp.trans (srt_perm le l).symm)
theorem leI_uniq {l m : List Int} (hp : m.Perm l) (hs : m.Pairwise (· ≤ ·)) : m = srtB leI l :=
  srt_uniq (fun a b h => by simp only [leI, decide_eq_true_eq, decide_eq_false_iff_not] at *; omega) (fun a b c h1 h2 => by simp only [leI, decide_eq_true_eq] at *; omega) (fun a b h1 h2 => by simp only [leI, decide_eq_true_eq] at *; omega) hp (hs.imp fun h => by simpa [leI] using h)
theorem leP_uniq {l m : List (Int × Int)} (hp : m.Perm l) (hs : m.Pairwise (fun a b => leP a b = true)) : m = srtB leP l :=
  srt_uniq (fun a b h => by simp only [leP, decide_eq_true_eq, decide_eq_false_iff_not] at *; omega) (fun a b c h1 h2 => by simp only [leP, decide_eq_true_eq] at *; omega) (fun a b h1 h2 => by
    simp only [leP, decide_eq_true_eq] at *
    exact Prod.ext (by omega) (by omega)) hp hs
theorem lexS_tr (a b c : List Nat) (h1 : ¬ b < a) (h2 : ¬ c < b) : ¬ c < a := fun h => by
  have g1 : a ≤ b := h1
  have g2 : b ≤ c := h2
  exact (List.le_trans g1 g2) h
theorem leS_uniq {l m : List Str} (hp : m.Perm l) (hs : m.Pairwise (fun a b => leS a b = true)) : m = srtB leS l :=
  srt_uniq (fun a b h => by
      simp only [leS, ltS, Bool.not_eq_true', decide_eq_false_iff_not, Bool.not_eq_false', decide_eq_true_eq] at *
      exact fun g => (List.lt_asymm h g)) (fun a b c h1 h2 => by
      simp only [leS, ltS, Bool.not_eq_true', decide_eq_false_iff_not] at *
      exact lexS_tr _ _ _ h1 h2) (fun a b h1 h2 => by
      simp only [leS, ltS, Bool.not_eq_true', decide_eq_false_iff_not] at *
      have g1 : a.cps.toList ≤ b.cps.toList := h1
      have g2 : b.cps.toList ≤ a.cps.toList := h2
      have := List.le_antisymm g1 g2
      cases a; cases b
      simpa using this) hp hs
theorem prsOf_map : ∀ {ds : List D} {ps : List (Int × Int)}, prsOf ds = some ps → ds = ps.map prD
  | [], ps, h => by simp [prsOf] at h; subst h; rfl
  | d :: ds, ps, h => by
    unfold prsOf at h
    split at h
    · rename_i h0; cases h0
    · rename_i i j r h0
      cases h0
      rw [Option.map_eq_some_iff] at h
      obtain ⟨ms, h1, rfl⟩ := h
      rw [List.map_cons, ← prsOf_map h1]
      rfl
    · cases h
/-- the ints of a pair -/
def prV (H : Hp) : V → Int × Int
  | .ref t => match H t with
    | some (.tup [.int i, .int j]) => (i, j)
    | _ => (0, 0)
  | _ => (0, 0)
theorem DmAll.prs {M : Addr → Prop} : ∀ {vs : List V} {ps : List (Int × Int)}, DmAll M H vs (ps.map prD) → vs.map (prV H) = ps ∧ ∀ x ∈ vs, ∃ t, x = V.ref t ∧ H t = some (.tup [.int (prV H x).1, .int (prV H x).2])
  | _, [], .nil => ⟨rfl, fun _ h => by cases h⟩
  | _, p :: ps, .cons (.tup e _ t) r => by
    obtain ⟨h1, h2⟩ := DmAll.prs r
    have ht : t = t := rfl
    cases t with
    | cons a t =>
      cases t with
      | cons b t =>
        cases t
        cases a
        cases b
        refine ⟨?_, fun x hx => ?_⟩
        · rw [List.map_cons, h1]
          simp only [prV, e]
        · rcases List.mem_cons.mp hx with rfl | hx
          · exact ⟨_, rfl, by simp only [prV, e]⟩
          · exact h2 x hx
theorem DmAll.mem {M : Addr → Prop} : ∀ {vs : List V} {ps : List (Int × Int)}, DmAll M H vs (ps.map prD) → ∀ {ws : List V}, (∀ x ∈ ws, x ∈ vs) → DmAll M H ws ((ws.map (prV H)).map prD)
  | vs, ps, h, [], _ => .nil
  | vs, ps, h, x :: ws, hx => by
    refine .cons ?_ (DmAll.mem h fun y hy => hx y (List.mem_cons_of_mem _ hy))
    have hm := hx x (List.mem_cons_self ..)
    obtain ⟨i, hi⟩ := List.getElem?_of_mem hm
    obtain ⟨d, hd, dm⟩ := h.getV hi
    rw [List.getElem?_map, Option.map_eq_some_iff] at hd
    obtain ⟨p, hp, rfl⟩ := hd
    have e := h.prs.1
    have : prV H x = p := by
      have h3 : (vs.map (prV H))[i]? = some (prV H x) := by rw [List.getElem?_map, hi]; rfl
      rw [e, hp] at h3
      exact (Option.some.inj h3).symm
    rw [this]
    exact dm
theorem srtS_pw : ∀ {l : List Str}, PyProof.Rows.sortedS l = true → l.Pairwise (fun a b => leS a b = true) := by
  have tr : ∀ a b c : Str, leS a b = true → leS b c = true → leS a c = true := fun a b c h1 h2 => by
    simp only [leS, ltS, Bool.not_eq_true', decide_eq_false_iff_not] at *
    exact lexS_tr _ _ _ h1 h2
  have go : ∀ (l : List Str) (p : Str), PyProof.Rows.risingS p l = true → (p :: l).Pairwise (fun a b => leS a b = true) := by
    intro l
    induction l with
    | nil => exact fun p _ => List.pairwise_singleton _ _
    | cons x r ih =>
      intro p h
      simp only [PyProof.Rows.risingS, Bool.and_eq_true] at h
      have hx : leS p x = true := by
        simp only [leS, ltS]
        rw [← PyProof.Rows.ltCps_eq]
        exact h.1
      have h2 := ih x h.2
      refine List.pairwise_cons.mpr ⟨fun y hy => ?_, h2⟩
      rcases List.mem_cons.mp hy with rfl | hy
      · exact hx
      · exact tr _ _ _ hx ((List.pairwise_cons.mp h2).1 y hy)
  intro l h
  cases l with
  | nil => exact .nil
  | cons x r => exact go r x h
theorem tpsOf_map : ∀ {ds : List D} {rs : List (List Int)}, tpsOf ds = some rs → ds = rs.map rwT
  | [], rs, h => by simp [tpsOf] at h; subst h; rfl
  | d :: ds, rs, h => by
    unfold tpsOf at h
    split at h
    · rename_i h0; cases h0
    · rename_i xs r h0
      cases h0
      split at h
      · rename_i ns hn
        rw [Option.map_eq_some_iff] at h
        obtain ⟨ms, h1, rfl⟩ := h
        rw [List.map_cons, ← tpsOf_map h1, intsOf_map hn]
        rfl
      · cases h
    · cases h
theorem leR_uniq {l m : List (List Int)} (hp : m.Perm l) (hs : m.Pairwise (· ≤ ·)) : m = srtB leR l :=
  srt_uniq (fun a b h => by
      simp only [leR, decide_eq_true_eq, decide_eq_false_iff_not] at *
      rcases List.le_total a b with z | z
      · exact absurd z h
      · exact z) (fun a b c h1 h2 => by
      simp only [leR, decide_eq_true_eq] at *
      exact List.le_trans h1 h2) (fun a b h1 h2 => by
      simp only [leR, decide_eq_true_eq] at *
      exact List.le_antisymm h1 h2) hp (hs.imp fun h => by simpa [leR] using h)
theorem DmAll.rows {M : Addr → Prop} : ∀ {vs : List V} {rs : List (List Int)}, DmAll M H vs (rs.map rwT) → (vs.zip rs).map (·.1) = vs ∧ (∀ b ∈ vs.zip rs, ∃ t, b.1 = V.ref t ∧ H t = some (.tup (b.2.map V.int))) ∧ (vs.zip rs).map (·.2) = rs
  | _, [], .nil => ⟨rfl, fun _ h => (by simp at h), rfl⟩
  | _, r :: rs, .cons (.tup e _ t) q => by
    obtain ⟨h1, h2, h3⟩ := DmAll.rows q
    refine ⟨by simp [h1], fun b hb => ?_, by simp [h3]⟩
    rw [List.zip_cons_cons] at hb
    rcases List.mem_cons.mp hb with rfl | hb
    · exact ⟨_, rfl, by rw [e, t.ints]⟩
    · exact h2 b hb
theorem DmAll.rowsMem {M : Addr → Prop} {vs : List V} {rs : List (List Int)} (h : DmAll M H vs (rs.map rwT)) : ∀ {cs : List (V × List Int)}, (∀ b ∈ cs, b ∈ vs.zip rs) → DmAll M H (cs.map (·.1)) ((cs.map (·.2)).map rwT)
  | [], _ => .nil
  | b :: cs, hc => by
    refine .cons ?_ (DmAll.rowsMem h fun x hx => hc x (List.mem_cons_of_mem _ hx))
    obtain ⟨i, hi⟩ := List.getElem?_of_mem (hc b (List.mem_cons_self ..))
    rw [List.getElem?_zip_eq_some] at hi
    obtain ⟨d, hd, dm⟩ := h.getV hi.1
    rw [List.getElem?_map, hi.2] at hd
    cases hd
    exact dm
theorem sorted_go (hu : X.A.units + 100 < cLine) {p : Addr} {vs : List V} {ds es : List D} {Q : VK} (e : H p = some (.lst vs)) (t : DmAll (Mf P as μ) H vs ds) (hb : srtF ds = some es) (w : Wd P H as μ) (q : Ans X.K P H as μ (.fr es) Q) (pins : List (Addr × Obj)) (s : Shared) (σ : L2.St) (us : List Value)
    (I : Inv X pins σ H s) (r : Vals [V.ref p] us) : wpAny (model X.prog X.w) X.A (call (.builtin "sorted") us) (EP X pins σ Q) X.xe s := by
  unfold srtF at hb
  split at hb
  · rename_i ns hn
    cases hb
    rw [intsOf_map hn] at t
    rw [t.ints] at e
    refine cr_sortedI pins s σ H _ us Q I r ⟨p, ns, rfl, .of e, fun ns' l h1 h2 hl => ?_⟩
    rw [leI_uniq h1 h2]
    exact q.fr w hl (DmAll.ofInts _ _ _)
  · split at hb
    · rename_i xs hx
      split at hb
      · rename_i hz
        cases hb
        rw [strsOf_map hx] at t
        rw [t.strs] at e
        refine cr_sortedS pins s σ H _ us Q I r ⟨p, xs, rfl, .of e, hz, fun ys l h1 h2 hl => ?_⟩
        rw [leS_uniq h1 (srtS_pw h2)]
        exact q.fr w hl (DmAll.ofStrs _ _ _)
      · cases hb
    · split at hb
      case h_2 =>
        split at hb
        · rename_i rs hr
          split at hb
          · rename_i hne
            cases hb
            rw [tpsOf_map hr] at t
            obtain ⟨g1, g2, g3⟩ := t.rows
            refine cr_sortedTs hu pins s σ H _ us Q I r ⟨p, vs.zip rs, rfl, .of (by rw [g1]; exact e), g2, ?_, fun cs l h1 h2 hl => ?_⟩
            · rcases hne with hne | hne
              · refine .inl fun b hb => ?_
                have := List.all_eq_true.mp hne b.2 (List.of_mem_zip hb).2
                simpa using this
              · refine .inr ?_
                rw [List.length_zip]
                omega
            · have pm : (cs.map (·.2)).Perm rs := by
                have := h1.map (·.2)
                rwa [g3] at this
              rw [← leR_uniq pm (List.pairwise_map.mpr h2)] at q
              exact q.fr w hl (t.rowsMem fun b hb => h1.mem_iff.mp hb)
          · cases hb
        · cases hb
      rename_i ps hp
      cases hb
      rw [prsOf_map hp] at t
      obtain ⟨g1, g2⟩ := t.prs
      refine cr_sortedPO pins s σ H _ us Q I r ⟨p, vs, prV H, rfl, .of e, g2, fun ys l h1 h2 hl => ?_⟩
      have pm : (ys.map (prV H)).Perm ps := by rw [← g1]; exact h2.perm.map _
      have pw : (ys.map (prV H)).Pairwise (fun a b => leP a b = true) := by
        refine List.pairwise_map.mpr (h1.imp fun {a b} h => ?_)
        have := SrtO.lexB_no.mp h
        simp only [leP, decide_eq_true_eq]
        omega
      rw [← leP_uniq pm pw] at q
      exact q.fr w hl (t.mem fun x hx => h2.perm.mem_iff.mp hx)
/-- the value that a built-in's name has -/
def Bi.val : Bi → Value
  | .abs => .builtin "abs" | .max => .builtin "max" | .min => .builtin "min" | .int => .type "int" | .str => .type "str" | .all => .builtin "all" | .any => .builtin "any" | .tuple => .type "tuple" | .list => .type "list"
  | .sorted => .builtin "sorted" | .sum => .builtin "sum" | .divmod => .builtin "divmod" | .repr => .builtin "repr" | .set => .type "set"
theorem bi_ok (hc : X.calm = true) (hh : X.A.handled = none) (hg : X.A.guards = some []) (hu : X.A.units + 100 < cLine) (b : Bi) : CallR X b.val (rDs X.K (biF b)) := by
  intro pins s σ H xs us Q I r h
  obtain ⟨P, as, μ, ds, z, w, hd, hg', q⟩ := h
  unfold biF at hg'
  split at hg'
  · cases hg'
    obtain ⟨v, rfl, h1⟩ := hd.one
    rw [h1.int] at r
    exact call_abs pins s σ H _ us Q I r ⟨_, rfl, q.dt w (.int _)⟩
  · cases hg'
    obtain ⟨v, v2, rfl, h1, h2⟩ := hd.two
    rw [h1.int, h2.int] at r
    exact call_max2 hc pins s σ H _ us Q I r ⟨_, _, rfl, q.dt w (.int _)⟩
  · cases hg'
    obtain ⟨v, v2, rfl, h1, h2⟩ := hd.two
    rw [h1.int, h2.int] at r
    exact call_min2 hc pins s σ H _ us Q I r ⟨_, _, rfl, q.dt w (.int _)⟩
  · cases hg'
    obtain ⟨v, v2, rfl, h1, h2⟩ := hd.two
    rw [h1.str, h2.str] at r
    exact call_min2S hc pins s σ H _ us Q I r ⟨_, _, rfl, q.dt w (.str _)⟩
  · split at hg'
    · rename_i x rr hx
      cases hg'
      obtain ⟨v, rfl, h1⟩ := hd.one
      obtain ⟨p, vs, rfl, e, t⟩ := h1.list
      rw [strsOf_map hx] at t
      rw [t.strs] at e
      exact call_minLS hc hu pins s σ H _ us Q I r ⟨p, x, rr, rfl, .of e, q.dt w (.str _)⟩
    · cases hg'
  · cases hg'
    obtain ⟨v, rfl, h1⟩ := hd.one
    rw [h1.int] at r
    exact call_int1 pins s σ H _ us Q I r (.inl ⟨_, rfl, q.dt w (.int _)⟩)
  · cases hg'
    obtain ⟨v, rfl, h1⟩ := hd.one
    rw [h1.bl] at r
    exact call_int1 pins s σ H _ us Q I r (.inr ⟨_, rfl, q.dt w (.int _)⟩)
  · obtain ⟨v, rfl, h1⟩ := hd.one
    rw [h1.str] at r
    split at hg'
    · rename_i n hn
      split at hg'
      · rename_i hz
        cases hg'
        exact call_int_str pins s σ H _ us Q I r ⟨_, _, rfl, hn, hz, q.dt w (.int _)⟩
      · cases hg'
    · cases hg'
  · split at hg'
    · rename_i hz
      cases hg'
      obtain ⟨v, rfl, h1⟩ := hd.one
      rw [h1.int] at r
      exact call_str_int pins s σ H _ us Q I r ⟨_, rfl, hz, q.dt w (.str _)⟩
    · cases hg'
  · rw [Option.map_eq_some_iff] at hg'
    obtain ⟨bs, hb, rfl⟩ := hg'
    obtain ⟨v, rfl, h1⟩ := hd.one
    obtain ⟨p, vs, rfl, e, t⟩ := h1.list
    rw [blsOf_map hb] at t
    rw [t.bls] at e
    exact cr_all hc pins s σ H _ us Q I r ⟨p, bs, rfl, .of e, q.dt w (.bl _)⟩
  · rw [Option.map_eq_some_iff] at hg'
    obtain ⟨bs, hb, rfl⟩ := hg'
    obtain ⟨v, rfl, h1⟩ := hd.one
    obtain ⟨p, vs, rfl, e, t⟩ := h1.list
    rw [blsOf_map hb] at t
    rw [t.bls] at e
    exact cr_any hc pins s σ H _ us Q I r ⟨p, bs, rfl, .of e, q.dt w (.bl _)⟩
  · cases hg'
    obtain ⟨v, rfl, h1⟩ := hd.one
    obtain ⟨p, vs, rfl, e, t⟩ := h1.list
    exact call_tuple_of pins s σ H _ us Q I r ⟨p, _, rfl, .inl ⟨.of e, fun l hl => q.tup w hl t⟩⟩
  · cases hg'
    obtain ⟨v, rfl, h1⟩ := hd.one
    rcases h1 with h1 | ⟨_, _, _, _, e, _⟩
    · cases h1 with
      | tup e n t => exact call_tuple_of pins s σ H _ us Q I r ⟨_, _, rfl, .inr ⟨.of e, q.dt w (.tup e n t)⟩⟩
    · cases e
  · cases hg'
    obtain ⟨v, rfl, h1⟩ := hd.one
    obtain ⟨p, vs, rfl, e, t⟩ := h1.list
    exact call_list_of pins s σ H _ us Q I r ⟨p, _, rfl, .inl (.of e), fun l hl => q.fr w hl t⟩
  · cases hg'
    obtain ⟨v, rfl, h1⟩ := hd.one
    obtain ⟨p, vs, rfl, e, t⟩ := h1.tup
    exact call_list_of pins s σ H _ us Q I r ⟨p, _, rfl, .inr (.of e), fun l hl => q.fr w hl t⟩
  · split at hg'
    · rename_i hz
      cases hg'
      obtain ⟨v, rfl, h1⟩ := hd.one
      rw [h1.str] at r
      refine call_list_txt hh pins s σ H _ us Q I r ⟨_, rfl, hz, fun p hp => q.fr w hp ?_⟩
      have go : ∀ l : List Nat, DmAll (Mf P as μ) H (l.map fun c => V.str ⟨#[c]⟩) (l.map fun c => PyData.str ⟨#[c]⟩) := fun l => by
        induction l with
        | nil => exact .nil
        | cons c l ih => exact .cons (.str _) ih
      exact go _
    · cases hg'
  · rw [Option.map_eq_some_iff] at hg'
    obtain ⟨es, hb, rfl⟩ := hg'
    obtain ⟨v, rfl, h1⟩ := hd.one
    obtain ⟨p, vs, rfl, e, t⟩ := h1.list
    exact sorted_go hu e t hb w q pins s σ us I r
  · rw [Option.map_eq_some_iff] at hg'
    obtain ⟨ns, hn, rfl⟩ := hg'
    obtain ⟨v, rfl, h1⟩ := hd.one
    obtain ⟨p, vs, rfl, e, t⟩ := h1.tup
    rw [intsOf_map hn] at t
    rw [t.ints] at e
    refine cr_sortedTI pins s σ H _ us Q I r ⟨p, ns, rfl, .of e, fun ns' l h1 h2 hl => ?_⟩
    rw [leI_uniq h1 h2]
    exact q.fr w hl (DmAll.ofInts _ _ _)
  · split at hg'
    · rename_i hz
      cases hg'
      obtain ⟨v, rfl, h1⟩ := hd.one
      rw [h1.str] at r
      refine cr_sortedX hh pins s σ H _ us Q I r ⟨_, rfl, hz, fun ys l h1 h2 hl => ?_⟩
      rw [leS_uniq h1 (srtS_pw h2)]
      exact q.fr w hl (DmAll.ofStrs _ _ _)
    · cases hg'
  · rw [Option.map_eq_some_iff] at hg'
    obtain ⟨bs, hb, rfl⟩ := hg'
    obtain ⟨v, rfl, h1⟩ := hd.one
    obtain ⟨p, vs, rfl, e, t⟩ := h1.list
    rw [intsOf_map hb] at t
    rw [t.ints] at e
    exact cr_sum hc pins s σ H _ us Q I r ⟨p, bs, rfl, .of e, q.dt w (.int _)⟩
  · split at hg'
    · rename_i hz
      cases hg'
      obtain ⟨v, v2, rfl, h1, h2⟩ := hd.two
      rw [h1.int, h2.int] at r
      exact call_divmod pins s σ H _ us Q I r ⟨_, _, rfl, hz, fun p hp => q.tup w hp (.cons (.int _) (.cons (.int _) .nil))⟩
    · cases hg'
  · split at hg'
    · rename_i hz
      cases hg'
      obtain ⟨v, rfl, h1⟩ := hd.one
      exact repr_ok hg hu pins s σ H _ us Q I r ⟨v, _, rfl, h1.dp hz.2.2.2, hz.1, hz.2.1, hz.2.2.1, hz.2.2.2, q.dt w (.str _)⟩
    · cases hg'
  · cases hg'
/-- len -/
theorem len_ok : CallR X (.builtin "len") (fun xs H Q => ∃ P as μ x, xs = [x] ∧ Wd P H as μ ∧ ((∃ d n, Dv P H as μ x d ∧ lenF d = some n ∧ Q (.int n) H) ∨ ∃ ns, Scr P H as μ X.K x ns ∧ Q (.int ns.length) H)) := by
  intro pins s σ H xs us Q I r h
  obtain ⟨P, as, μ, x, rfl, w, h⟩ := h
  rcases h with ⟨d, n, h1, h2, q⟩ | ⟨ns, h1, q⟩
  · unfold lenF at h2
    split at h2
    · split at h2
      · rename_i hz
        cases h2
        rw [h1.str] at r
        exact call_len_str pins s σ H _ us Q I r ⟨_, rfl, hz, q⟩
      · cases h2
    · cases h2
      obtain ⟨p, vs, rfl, e, t⟩ := h1.list
      exact call_len_seq pins s σ H _ us Q I r ⟨p, _, rfl, .inl (.of e), by rw [t.length]; exact q⟩
    · cases h2
      obtain ⟨p, vs, rfl, e, t⟩ := h1.tup
      exact call_len_seq pins s σ H _ us Q I r ⟨p, _, rfl, .inr (.of e), by rw [t.length]; exact q⟩
    · cases h2
  · obtain ⟨a, rfl, h1⟩ := h1
    refine call_len_seq pins s σ H _ us Q I r ⟨a, ns.map V.int, rfl, .inl ?_, by rw [List.length_map]; exact q⟩
    rcases h1 with ⟨o, h1, _⟩ | h1
    · exact .inl (.inr ⟨o, h1⟩)
    · exact .inr h1
theorem atI_all {vs : List V} {ds : List D} {M : Addr → Prop} {i : Int} {d : D} (t : DmAll M H vs ds) (h : atI ds i = some d) : ∃ v, atI vs i = some v ∧ Dm M H v d := by
  unfold atI at h ⊢
  rw [← t.length] at h
  cases e : ixN vs.length i with
  | none => rw [e] at h; cases h
  | some j =>
    rw [e] at h
    exact t.get h
/-- a[i] -/
theorem idx_ok : IxR X (fun x y H Q => ∃ P as μ, Wd P H as μ ∧ ((∃ a b d, Dv P H as μ x a ∧ Dv P H as μ y b ∧ idxF a b = some d ∧ Ans X.K P H as μ (.dt d) Q) ∨ ∃ ns j k, Scr P H as μ X.K x ns ∧ y = .int j ∧ atI ns j = some k ∧ Q (.int k) H)) := by
  intro value slice pins s σ H x y v u Q I rx ry h hs
  obtain ⟨P, as, μ, w, h⟩ := h
  rcases h with ⟨a, b, d, h1, h2, h3, q⟩ | ⟨ns, j, k, h1, rfl, h3, q⟩
  · unfold idxF at h3
    split at h3
    · obtain ⟨p, vs, rfl, e, t⟩ := h1.list
      rw [h2.int] at ry
      obtain ⟨v', e', t'⟩ := atI_all t h3
      exact ix_list value slice pins s σ H _ _ v u Q I rx ry ⟨p, vs, _, v', rfl, rfl, .of e, e', q.dt w t'⟩ hs
    · obtain ⟨p, vs, rfl, e, t⟩ := h1.tup
      rw [h2.int] at ry
      obtain ⟨v', e', t'⟩ := atI_all t h3
      exact ix_tup value slice pins s σ H _ _ v u Q I rx ry ⟨p, vs, _, v', rfl, rfl, .of e, e', q.dt w t'⟩ hs
    · split at h3
      · rename_i hz
        rw [Option.map_eq_some_iff] at h3
        obtain ⟨c, e, rfl⟩ := h3
        rw [h1.str] at rx
        rw [h2.int] at ry
        exact ix_str value slice pins s σ H _ _ v u Q I rx ry ⟨_, _, c, rfl, rfl, hz, e, q.dt w (.str _)⟩ hs
      · cases h3
    · cases h3
  · obtain ⟨a, rfl, h1⟩ := h1
    refine ix_list value slice pins s σ H _ _ v u Q I rx ry ⟨a, ns.map V.int, j, .int k, rfl, rfl, ?_, ?_, q⟩ hs
    · rcases h1 with ⟨o, h1, _⟩ | h1
      · exact .inl (.inr ⟨o, h1⟩)
      · exact .inr h1
    · unfold atI at h3 ⊢
      rw [List.length_map]
      cases e : ixN ns.length j with
      | none => rw [e] at h3; cases h3
      | some m =>
        rw [e] at h3
        show (ns.map V.int)[m]? = some (.int k)
        rw [List.getElem?_map, show ns[m]? = some k from h3]
        rfl
theorem cutOk {vs : List V} {ds : List D} {M : Addr → Prop} (t : DmAll M H vs ds) (lo hi : Option Int) : DmAll M H (cutV vs lo hi) (cutD ds lo hi) := by
  unfold cutV cutD
  rw [t.length]
  exact (t.drop _).take _
/-- a[lo:hi] -/
theorem slc_ok : SlR X (fun x lo hi H Q => ∃ P as μ a z, Wd P H as μ ∧ Dv P H as μ x a ∧ slcF a lo hi = some z ∧ Ans X.K P H as μ z Q) := by
  intro pins s σ H x v vl vu lo hi sl Q I rx hs pl pu h
  obtain ⟨P, as, μ, a, z, w, h1, h2, q⟩ := h
  unfold slcF at h2
  split at h2
  · cases h2
    obtain ⟨p, vs, rfl, e, t⟩ := h1.list
    exact sl_list pins s σ H _ v vl vu _ _ sl Q I rx hs pl pu ⟨p, vs, rfl, .of e, fun l hl => q.fr w hl (cutOk t _ _)⟩
  · rename_i ds
    cases h2
    rcases h1 with h1 | ⟨_, _, _, _, e, _⟩
    · cases h1 with
      | tup e n t =>
        refine sl_tupA pins s σ H _ v vl vu _ _ sl Q I rx hs pl pu ⟨_, _, rfl, .of e, fun hw => ?_, fun _ l hl => q.tup w hl (cutOk t _ _)⟩
        have e1 : cutD ds lo hi = ds := by
          unfold cutD
          rw [← t.length, hw.1, hw.2, List.drop_zero, Nat.sub_zero, t.length, List.take_length]
        rw [e1] at q
        exact q.dt w (.tup e n t)
    · cases e
  · split at h2
    · rename_i hz
      cases h2
      rw [h1.str] at rx
      exact sl_str pins s σ H _ v vl vu _ _ sl Q I rx hs pl pu ⟨_, rfl, hz, q.dt w (.str _)⟩
    · cases h2
  · cases h2
/-- text[::-1] -/
theorem rev_made (x : Str) (t : Tok) (u : Tok) : sliceMade x t none none (some (-1, u)) = Made.str ⟨x.cps.toList.reverse.toArray⟩ := by
  have e1 : slicePicked x none none (some (-1, u)) = (List.range x.length).reverse := by
    show Builtin.Str.strSliceIndices none none (-1) x.length = _
    unfold Builtin.Str.strSliceIndices
    show sliceRange ((x.length : Int) - 1) (-1) (-1) = _
    rw [PySem.W.krv_sliceRange, PySem.W.krv_range]
  unfold sliceMade
  rw [e1]
  have e2 : ((((some ((-1 : Int), u)).map (·.1)).getD 1 == 1) && ((List.range x.length).reverse.length == x.length)) = false := by rfl
  rw [e2, if_neg Bool.false_ne_true, List.filterMap_reverse]
  have e3 := PySem.W.krv_all x.cps
  have e4 : x.length = x.cps.size := rfl
  rw [e4, e3]
def tRev (K : PySem.W.Frag) (te : TE) : TE := fun σ H Q => te σ H fun x H1 => ∃ P as μ a z, Wd P H1 as μ ∧ Dv P H1 as μ x a ∧ revF a = some z ∧ Ans K P H1 as μ z Q
theorem rev_ok {e : Expr} {te : TE} {k : Nat} {p1 p2 p3 pos : Pos} (he : PE X e te) : PE X (.Subscript e (.Slice none none (some (.UnaryOp .USub (.Constant (.int 1) k p1) p2)) p3) pos) (tRev X.K te) := by
  refine ⟨fun pins s σ H Q I h => ?_⟩
  refine PyProof.Rows.Subscript_ (thn (he.run pins s σ H _ I h) fun v s1 ⟨x, H1, I1, r1, q1⟩ => ?_)
  obtain ⟨P, as, μ, a, z, w, h1, h2, q⟩ := q1
  have hst : PO X (some (.UnaryOp .USub (.Constant (.int 1) k p1) p2)) (tPart (tUn (rU fun i => .int (-i)) (tC (.int 1)))) := po_some (pe_un un_neg pe_int)
  refine wpAny_Slice (thn (po_none.run pins s1 σ H1 (fun o H2 => o = none ∧ H2 = H1) I1 ⟨rfl, rfl⟩) fun vl s2 ⟨l, H2, I2, pl, el, e2⟩ => ?_)
  subst el e2
  refine thn (po_none.run pins s2 σ H2 (fun o H3 => o = none ∧ H3 = H2) I2 ⟨rfl, rfl⟩) fun vu s3 ⟨u, H3, I3, pu, eu, e3⟩ => ?_
  subst eu e3
  refine thn (hst.run pins s3 σ H3 (fun o H4 => o = some (-1) ∧ H4 = H3) I3 ⟨1, rfl, -1, rfl, rfl, rfl⟩) fun vs s4 ⟨o, H4, I4, ps, eo, e4⟩ => ?_
  subst eo e4
  have I5 : Inv X pins σ H4 { s4 with heap := s4.heap.push { cls := .type "slice", data := .fields #[vl, vu, vs] } } := I4.kept (t' := s4.toks) fun b ob q => Heap.get?_push_of_some _ q
  show wpAny (model X.prog X.w) X.A (subscriptTail e (.Slice none none (some (.UnaryOp .USub (.Constant (.int 1) k p1) p2)) p3) v (.ref s4.heap.objs.size)) (EP X pins σ Q) X.xe { s4 with heap := s4.heap.push { cls := .type "slice", data := .fields #[vl, vu, vs] } }
  unfold revF at h2
  split at h2
  · cases h2
    obtain ⟨p, ws, rfl, e, t⟩ := h1.list
    cases r1
    obtain ⟨its, r, ht, hz⟩ := I5.list (SqL.of (K := X.K) e)
    have hlen := r.length
    refine PyProof.Rows.tail_any (ops := [.ref p, .ref s4.heap.objs.size]) ht.isList.typeIs (PySem.slot_list_getitem.lookup) ?_ (by with_unfolding_all rfl)
    refine wpAny_getItem_list_slice ht.isList (Heap.IsSliceOf.new _ vl vu vs) pl pu ps (by decide) ?_ (by rw [List.size_toArray]; omega)
    rw [PySem.W.krv_pick]
    refine ⟨.ref _, _, I5.laid (t' := s4.toks) (o := .lst ws.reverse) (fun b ob q => Heap.get?_push_of_some _ q) (Nat.le_refl _) ?_, rfl, q.fr w (I5.hok.fresh (Nat.le_refl _)) t.reverse⟩
    exact ⟨by rw [List.length_reverse]; exact hz, _, 0, r.reverse, Heap.get?_push_size _ rfl⟩
  · split at h2
    · cases h2
    · cases h2
      obtain ⟨p, ws, rfl, e, t⟩ := h1.tup
      cases r1
      obtain ⟨its, r, ht, hz⟩ := I5.tuple (SqT.of (K := X.K) e)
      have hlen := r.length
      cases pl
      cases pu
      cases ps with
      | int i tt =>
        refine PyProof.Rows.tail_any (ops := [.ref p, .ref s4.heap.objs.size]) ht.typeIs PyProof.Rows.slot_tuple_getitem.lookup ?_ (by with_unfolding_all rfl)
        refine getItem_tuple_rev ht (Heap.IsSliceOf.new _ _ _ _) ?_ (by rw [List.size_toArray]; omega)
        refine ⟨.ref _, _, I5.laid (t' := s4.toks) (o := .tup ws.reverse) (fun b ob q => Heap.get?_push_of_some _ q) (Nat.le_refl _) ?_, rfl, q.tup w (I5.hok.fresh (Nat.le_refl _)) t.reverse⟩
        exact ⟨by rw [List.length_reverse]; exact hz, _, r.reverse, PyProof.Rows.IsTup.new _ _⟩
  · split at h2
    · rename_i y hz
      cases h2
      rw [h1.str] at r1
      obtain ⟨t, rfl⟩ := r1
      cases pl
      cases pu
      cases ps with
      | int i tt =>
        refine PyProof.Rows.tail_any (ops := [.str _ t, .ref s4.heap.objs.size]) (typeIs_str _ _ t) F.slot_str_getitem.lookup ?_ (by with_unfolding_all rfl)
        refine wpAny_getItem_str_slice (l := none) (u := none) (st := some (-1, tt)) ⟨_, Heap.get?_push_size _ rfl, rfl, rfl⟩ (by rfl) ?_
        rw [rev_made]
        refine ⟨?_, .str _, H4, I5.tok _, ⟨_, rfl⟩, q.dt w (.str _)⟩
        show (y.cps.toList.reverse.toArray).size ≤ sizeLine
        rw [List.size_toArray, List.length_reverse, Array.length_toList, sizeLine_eq]
        have : y.cps.size ≤ 1000 := hz
        omega
    · cases h2
  · cases h2
theorem rvs_lo (x : Str) (t : Tok) (i : Int) (ti u : Tok) (h0 : 0 ≤ i) (h1 : i < x.length) : sliceMade x t (some (i, ti)) none (some (-1, u)) = Made.str ⟨(x.cps.toList.take (i.toNat + 1)).reverse.toArray⟩ := by
  have e1 : slicePicked x (some (i, ti)) none (some (-1, u)) = (List.range' 0 (i.toNat + 1)).reverse := by
    show Builtin.Str.strSliceIndices (some i) none (-1) x.length = _
    unfold Builtin.Str.strSliceIndices
    simp only
    rw [if_neg (by omega : ¬ i < 0), if_neg (by omega : ¬ (-1 : Int) > 0), if_neg (by omega : ¬ (-1 : Int) > 0)]
    have e : max (-1) (min i ((x.length : Int) - 1)) = ((i.toNat + 1 : Nat) : Int) - 1 := by omega
    rw [e, PySem.W.krv_sliceRange, PySem.W.krv_range, List.range_eq_range']
  unfold sliceMade
  rw [e1]
  have e2 : ((((some ((-1 : Int), u)).map (·.1)).getD 1 == 1) && ((List.range' 0 (i.toNat + 1)).reverse.length == x.length)) = false := by rfl
  rw [e2, if_neg Bool.false_ne_true, List.filterMap_reverse, pick_rng, List.drop_zero]
theorem rvs_hi (x : Str) (t : Tok) (i : Int) (ti u : Tok) (h0 : 0 ≤ i) (h1 : i < x.length) : sliceMade x t none (some (i, ti)) (some (-1, u)) = Made.str ⟨(x.cps.toList.drop (i.toNat + 1)).reverse.toArray⟩ := by
  have e1 : slicePicked x none (some (i, ti)) (some (-1, u)) = (List.range' (i.toNat + 1) (x.length - 1 - i.toNat)).reverse := by
    show Builtin.Str.strSliceIndices none (some i) (-1) x.length = _
    unfold Builtin.Str.strSliceIndices
    simp only
    rw [if_neg (by omega : ¬ i < 0), if_neg (by omega : ¬ (-1 : Int) > 0), if_neg (by omega : ¬ (-1 : Int) > 0)]
    have e : max (-1) (min i ((x.length : Int) - 1)) = i := by omega
    rw [e]
    unfold sliceRange
    simp only
    rw [if_neg (by omega : ¬ (-1 : Int) > 0)]
    have ec : (if (x.length : Int) - 1 > i then ((x.length : Int) - 1 - i - -1 - 1) / (- -1) else 0).toNat = x.length - 1 - i.toNat := by
      have e1 : (- -1 : Int) = 1 := rfl
      rw [e1, Int.ediv_one]
      split <;> omega
    rw [ec, ← down_rng (i.toNat + 1) (x.length - 1 - i.toNat) x.length (by omega)]
    refine List.map_congr_left fun k hk => ?_
    rw [List.mem_range] at hk
    omega
  unfold sliceMade
  rw [e1]
  have e2 : ((((some ((-1 : Int), u)).map (·.1)).getD 1 == 1) && ((List.range' (i.toNat + 1) (x.length - 1 - i.toNat)).reverse.length == x.length)) = false := by rfl
  rw [e2, if_neg Bool.false_ne_true, List.filterMap_reverse, pick_rng, List.take_of_length_le]
  have : x.cps.toList.length = x.length := by simp [Str.length]
  rw [List.length_drop, this]
  omega
def tRvs (K : PySem.W.Frag) (te : TE) (tl th : St → Hp → (Option Int → Hp → Prop) → Prop) : TE := fun σ H Q => te σ H fun x H1 => tl σ H1 fun lo H2 => th σ H2 fun hi H3 => ∃ P as μ a z, Wd P H3 as μ ∧ Dv P H3 as μ x a ∧ rvF a lo hi = some z ∧ Ans K P H3 as μ z Q
theorem rvs_ok {e : Expr} {lo hi : Option Expr} {te : TE} {tl th : St → Hp → (Option Int → Hp → Prop) → Prop} {k : Nat} {p1 p2 p3 pos : Pos} (he : PE X e te) (hl : PO X lo tl) (hh : PO X hi th) : PE X (.Subscript e (.Slice lo hi (some (.UnaryOp .USub (.Constant (.int 1) k p1) p2)) p3) pos) (tRvs X.K te tl th) := by
  refine ⟨fun pins s σ H Q I h => ?_⟩
  refine PyProof.Rows.Subscript_ (thn (he.run pins s σ H _ I h) fun v s1 ⟨x, H1, I1, r1, q1⟩ => ?_)
  have hst : PO X (some (.UnaryOp .USub (.Constant (.int 1) k p1) p2)) (tPart (tUn (rU fun i => .int (-i)) (tC (.int 1)))) := po_some (pe_un un_neg pe_int)
  refine wpAny_Slice (thn (hl.run pins s1 σ H1 _ I1 q1) fun vl s2 ⟨l, H2, I2, pl, q2⟩ => ?_)
  refine thn (hh.run pins s2 σ H2 _ I2 q2) fun vu s3 ⟨u, H3, I3, pu, q3⟩ => ?_
  refine thn (hst.run pins s3 σ H3 (fun o H4 => o = some (-1) ∧ H4 = H3) I3 ⟨1, rfl, -1, rfl, rfl, rfl⟩) fun vs s4 ⟨o, H4, I4, ps, eo, e4⟩ => ?_
  subst eo e4
  obtain ⟨P, as, μ, a, z, w, h1, h2, q⟩ := q3
  have I5 : Inv X pins σ H4 { s4 with heap := s4.heap.push { cls := .type "slice", data := .fields #[vl, vu, vs] } } := I4.kept (t' := s4.toks) fun b ob q => Heap.get?_push_of_some _ q
  show wpAny (model X.prog X.w) X.A (subscriptTail e (.Slice lo hi (some (.UnaryOp .USub (.Constant (.int 1) k p1) p2)) p3) v (.ref s4.heap.objs.size)) (EP X pins σ Q) X.xe { s4 with heap := s4.heap.push { cls := .type "slice", data := .fields #[vl, vu, vs] } }
  unfold rvF at h2
  split at h2
  · split at h2
    · rename_i hz
      cases h2
      rw [h1.str] at r1
      obtain ⟨t, rfl⟩ := r1
      cases pu
      cases pl with
      | int _ ti =>
        cases ps with
        | int _ tt =>
          refine PyProof.Rows.tail_any (ops := [.str _ t, .ref s4.heap.objs.size]) (typeIs_str _ _ t) F.slot_str_getitem.lookup ?_ (by with_unfolding_all rfl)
          refine wpAny_getItem_str_slice (l := some (_, ti)) (u := none) (st := some (-1, tt)) ⟨_, Heap.get?_push_size _ rfl, rfl, rfl⟩ (by rfl) ?_
          rw [rvs_lo _ _ _ _ _ hz.2.1 hz.2.2]
          refine ⟨?_, .str _, H4, I5.tok _, ⟨_, rfl⟩, q.dt w (.str _)⟩
          have h3 := hz.1
          unfold Str.length at h3
          show Array.size _ ≤ sizeLine
          simp only [List.size_toArray, List.length_reverse, List.length_take, Array.length_toList, sizeLine_eq]
          omega
    · cases h2
  · split at h2
    · rename_i hz
      cases h2
      rw [h1.str] at r1
      obtain ⟨t, rfl⟩ := r1
      cases pl
      cases pu with
      | int _ ti =>
        cases ps with
        | int _ tt =>
          refine PyProof.Rows.tail_any (ops := [.str _ t, .ref s4.heap.objs.size]) (typeIs_str _ _ t) F.slot_str_getitem.lookup ?_ (by with_unfolding_all rfl)
          refine wpAny_getItem_str_slice (l := none) (u := some (_, ti)) (st := some (-1, tt)) ⟨_, Heap.get?_push_size _ rfl, rfl, rfl⟩ (by rfl) ?_
          rw [rvs_hi _ _ _ _ _ hz.2.1 hz.2.2]
          refine ⟨?_, .str _, H4, I5.tok _, ⟨_, rfl⟩, q.dt w (.str _)⟩
          have h3 := hz.1
          unfold Str.length at h3
          show Array.size _ ≤ sizeLine
          simp only [List.size_toArray, List.length_reverse, List.length_drop, Array.length_toList, sizeLine_eq]
          omega
    · cases h2
  · cases h2
/-- isinstance(x, T) -/
theorem tyOk {x : V} {d : D} {t : String} (h : Dv P H as μ x d) (e : tyD d = some t) : TyX X.K H x (.type t) := by
  cases d with
  | none => cases e; rw [h.non]; exact .base .non
  | bool b => cases e; rw [h.bl]; exact .base (.bl b)
  | int i => cases e; rw [h.int]; exact .base (.int i)
  | str z => cases e; rw [h.str]; exact .base (.str z)
  | list ds =>
    cases e
    obtain ⟨p, vs, rfl, e, t⟩ := h.list
    exact .base (.lst e)
  | tuple ds =>
    cases e
    obtain ⟨p, vs, rfl, e, t⟩ := h.tup
    exact .base (.tup e)
  | dict kvs =>
    cases e
    obtain ⟨p, rfl, e⟩ := h.dict
    exact .base (.dK e)
theorem isi_ok (T : String) : CallR X (.builtin "isinstance") (fun xs H Q => ∃ P as μ x d b, xs = [x, .ty T] ∧ Wd P H as μ ∧ Dv P H as μ x d ∧ isiF T d = some b ∧ Q (.bl b) H) := by
  refine CallR.imp call_isi fun xs H Q h => ?_
  obtain ⟨P, as, μ, x, d, b, rfl, w, h1, h2, q⟩ := h
  unfold isiF at h2
  rw [Option.bind_eq_some_iff] at h2
  obtain ⟨t, h2, h3⟩ := h2
  exact ⟨x, .ty T, .type t, .type T, b, rfl, .ty T, tyOk h1 h2, kit_ty h3, q⟩
/-- truth -/
theorem tru_dv {x : V} {d : D} {k : Bool} (h : Dv P H as μ x d) (e : truD d = some k) : TruV X.K x H k := by
  cases d with
  | none => cases e; rw [h.non]; rfl
  | bool b => cases e; rw [h.bl]; rfl
  | int i => cases e; rw [h.int]; rfl
  | str z =>
    simp only [truD] at e
    split at e
    · rename_i hz
      cases e
      rw [h.str]
      refine ⟨hz, ?_⟩
      cases z.length <;> rfl
    · cases e
  | list ds =>
    cases e
    obtain ⟨p, vs, rfl, e, t⟩ := h.list
    refine .inl ⟨vs, .of e, ?_⟩
    cases t <;> rfl
  | tuple ds =>
    cases e
    obtain ⟨p, vs, rfl, e, t⟩ := h.tup
    refine .inr (.inl ⟨vs, .of e, ?_⟩)
    cases t <;> rfl
  | dict kvs => cases e
end
end TL
/-! T6: calls of defs; the context; expressions -/
namespace TL
open PySem PySem.Spec L2
set_option autoImplicit false

/-! ### a def's promise, where no repr is under way -/
structure FnG (P : Program) (w : World) (K : PySem.W.Frag) (mg : Str → Option Value) (base : Heap) (CX : CXT) (k : Nat) (f : Addr) (fd : FuncData) (ps : List Str) (sp : Sp) : Prop where
  len : ∀ vs H Q E, sp vs H Q E → vs.length = ps.length
  run : ∀ (A : Around) (outer : List Env) (s : Shared) (H : Hp) (args : Args) (us : List Value) (vs : List V) (Q : VK) (E : XK), Room (k + 2) A → A.guards = some [] → Env0 P w K mg base A outer s H → BindsTo s fd args (ps.zip us) → Vals vs us → sp vs H Q E →
    codeAny (model P w) A (.call (.ref f) args) (CR CX outer P w H s Q E) s
section
variable {X : Cx} {CX : CXT} {k : Nat} {f : Addr} {fd : FuncData} {ps : List Str} {sp : Sp} {E : L2.St → XK} {x : Str} {p pos : Pos} {e : Expr} {es : List Expr} {t : TA}
theorem run_fnG {pins : List (Addr × Obj)} {σ : L2.St} {H : Hp} {s : Shared} {Q : VK} {us : List Value} {vs : List V} (F : FnG X.prog X.w X.K X.mg X.base CX k f fd ps sp) (hr : Room (k + 2) X.A) (hgd : X.A.guards = some []) (hb : Binds X.K fd ps []) (hx : PassesAt CX X σ (E σ))
    (I : L2.Inv X pins σ H s) (r : Vals vs us) (h : sp vs H Q (E σ)) : wpAny (model X.prog X.w) X.A (call (.ref f) us) (EP X pins σ Q) X.xe s := by
  have hl : us.length = ps.length := by rw [← r.length]; exact F.len _ _ _ _ h
  have b := hb s us I.kIn (by rw [List.append_nil]; exact hl)
  rw [List.append_nil] at b
  refine wpAny_call (codeAny_mono (F.run X.A X.stack s H ⟨us, []⟩ us vs Q (E σ) hr hgd I.env0 b r h) fun r s' hq => ?_)
  cases r with
  | error e => exact hx pins H s e s' I hq
  | ok fl =>
    cases fl with
    | ret u => exact I.after hq
    | next => exact False.elim hq
    | brk => exact False.elim hq
    | cont => exact False.elim hq
theorem pe_callG (F : FnG X.prog X.w X.K X.mg X.base CX k f fd ps sp) (hr : Room (k + 2) X.A) (hgd : X.A.guards = some []) (hg : Gl X x) (hm : X.mg x = some (.ref f)) (hk : PySem.W.keepIn X.K (.ref f) = true) (hb : Binds X.K fd ps []) (hx : ∀ σ, PassesAt CX X σ (E σ))
    (ha : PA X (e :: es) t) (hdb : (x == ("__debug__" : Str)) = false) (he : starEach (e :: es) X.env = (false, eval e X.env) :: starEach es X.env) (hpl : (backTo pos (starEach es X.env)).any (·.1) = false) :
    PE X (.Call (.Name x p) (e :: es) [] pos) (tCallS sp E t) := by
  refine ⟨fun pins s σ H Q I h => ?_⟩
  refine PySem.wpAny_Call_Name_kw (ld_glob I hg hm ?_ hdb)
  refine PySem.W.callWith_K (h₀ := X.base) I.ok.mod.kin hk (thn (ha.run pos pins s σ H _ I h) fun us s1 ⟨vs, H1, I1, r, q⟩ => ⟨I1.kIn, ?_⟩) he hpl
  exact run_fnG F hr hgd hb (hx σ) I1 r q
end
/-- what a def promises: what R gives -/
def spR (mg : Str → Option Value) (K : PySem.W.Frag) (g : List Vl → Mu → Rs Vl) (np : Nat) : Sp := fun vs H Q Ew => vs.length = np ∧ TbOk K H ∧ ∃ P as xs μ, Wd P H as μ ∧ Paired (SlOk K P H as μ) vs xs ∧
  Fin mg (fun cls d _ H' => Ew cls d H') P [] H as μ (g xs μ) fun x μ' H' as' => ∀ v, VlOk P H' as' μ' K H v x → Q v H'

/-- the built-ins' names -/
def bltNames : List Str := ["len", "isinstance", "range", "zip", "enumerate", "abs", "max", "min", "int", "str", "all", "any", "tuple", "list", "sorted", "sum", "divmod", "repr", "set", "bool", "dict", "NoneType"]
theorem takes0N {X : Cx} : L2N.Takes X (fun _ _ _ _ => False) := fun _ _ x => by
  obtain ⟨_, _, _, _, _, _, _, _, _, _, _, _, _, _, _, _, w⟩ := x
  exact w.elim
/-- all that is asked of where the code stands -/
structure Co (X : Cx) (c : MC) (W : WX) (γ : Str → Option D) (R : Str → Option (List Vl → Mu → Rs Vl)) (k : Nat) : Prop where
  N : c.N = X.N
  sc : c.sc = X.env.scope
  fn : c.fn = X.fn
  calm : X.calm = true
  nd : X.N.Nodup
  tk : L2N.Takes X W
  po : PassesOwn (model X.prog X.w) X.A X.env X.xe
  hr : Room (k + 2) X.A
  hg : X.A.guards = some []
  lm : c.lam = true → ∃ cc PP, X.env.code = .ref cc ∧ LamX.TabB X.base X.mg cc PP ∧ PySem.W.tabIn X.K lamF = some (cc, PP) ∧ X.env.qual ++ "<lambda>" = lamQ
  gam : ∀ x d, γ x = some d → ∃ u v, X.mg x = some u ∧ RelV v u ∧ ∀ M H, Dm M H v d
  blt : ∀ x ∈ bltNames, X.mg x = none
  exb : ∀ x ∈ c.xs, ∃ C B newId initId bmB, ExcBaseFacts B newId initId bmB ∧ PySem.W.excIn X.K C bmB newId = true ∧ X.mg x = some (.ref C) ∧ PySem.W.keepIn X.K (.ref C) = true ∧ PySem.W.subIn X.K (.ref C) (.type "BaseException") = some true ∧ PySem.W.typeIn X.K (.ref C) = some (.type "type")
  fns : ∀ f g, R f = some g → ∃ a fd ps, X.mg f = some (.ref a) ∧ PySem.W.keepIn X.K (.ref a) = true ∧ Binds X.K fd ps [] ∧ (∀ xs μ, g xs μ ≠ .bad → xs.length = ps.length) ∧ FnG X.prog X.w X.K X.mg X.base (L2N.CX X.prog X.w) k a fd ps (spR X.mg X.K g ps.length)
section
variable {X : Cx} {c : MC} {W : WX} {γ : Str → Option D} {R : Str → Option (List Vl → Mu → Rs Vl)} {k : Nat}
theorem Co.gl (co : Co X c W γ R k) {x : Str} (h : glB c x = true) : Gl X x ∧ (x == ("__debug__" : Str)) = false := by
  unfold glB at h
  rw [Bool.and_eq_true] at h
  refine ⟨?_, by simpa using h.2⟩
  have e : c.sc.names.lookup x = some .globalImplicit := by simpa [MC.look] using h.1
  rw [co.sc] at e
  exact e
theorem Co.vis (co : Co X c W γ R k) {i : Nat} {x : Str} (h : visB c i x = true) : X.N[i]? = some x ∧ Vis X.env.scope x ∧ (x == ("__debug__" : Str)) = false ∧ (x == ("__classdict__" : Str)) = false := by
  unfold visB at h
  simp only [Bool.and_eq_true, decide_eq_true_eq, Bool.or_eq_true, beq_iff_eq, Bool.not_eq_true'] at h
  obtain ⟨⟨⟨h1, h2⟩, h3⟩, h4⟩ := h
  refine ⟨by rw [← co.N]; exact h1, ?_, by simpa using h3, by simpa using h4⟩
  unfold MC.look at h2
  rw [co.sc] at h2
  rcases h2 with (h2 | h2) | h2
  · exact .inl h2
  · exact .inr (.inl h2)
  · exact .inr (.inr h2)
theorem Co.loc (co : Co X c W γ R k) {i : Nat} {x : Str} (h : locB c i x = true) : X.N[i]? = some x ∧ Loc X.env.scope x ∧ (X.fn x = true ∨ X.env.scope.names.lookup x = some .local) := by
  unfold locB at h
  simp only [Bool.and_eq_true, decide_eq_true_eq, Bool.or_eq_true, beq_iff_eq] at h
  obtain ⟨h1, h2⟩ := h
  unfold MC.look at h2
  rw [co.sc, co.fn] at h2
  refine ⟨by rw [← co.N]; exact h1, ?_, ?_⟩
  · rcases h2 with h2 | h2
    · exact .inl h2
    · exact .inr h2.1
  · rcases h2 with h2 | h2
    · exact .inr h2
    · exact .inl h2.2
theorem Co.blk (co : Co X c W γ R k) (s : Shared) (H : Hp) (C : Addr) (cl : List (Str × Addr)) (fp : List Addr) (scope : Scope) :
    Co (X.blk s H scope (compEnvC scope cl C X.env) fp) (c.blk scope) (fun _ _ _ _ => False) γ R k where
  N := co.N
  sc := by
    show relS scope c.sc = _
    rw [co.sc]
    rfl
  fn := rfl
  calm := co.calm
  nd := co.nd
  tk := takes0N
  po := PassesOwn.never
  hr := co.hr
  hg := co.hg
  lm := fun z => by cases z
  gam := co.gam
  blt := co.blt
  exb := co.exb
  fns := co.fns
theorem Co.hu (co : Co X c W γ R k) : X.A.units + 100 < cLine := by
  have := co.hr.un
  omega
end

/-! ### side facts of the syntax -/
section
variable {c : MC}
theorem star_of {a : E} {e : Expr} (h : mat c a e = true) (es : List Expr) (env : Env) : starEach (e :: es) env = (false, eval e env) :: starEach es env := by
  cases e with
  | Starred v p => cases a <;> exact absurd h Bool.false_ne_true
  | _ => rfl
theorem noSet_of {a : E} {e : Expr} (h : mat c a e = true) (env : Env) (x : Value) : foldedSetIterable e env x = pure x := by
  cases e with
  | Set l n p => cases a <;> exact absurd h Bool.false_ne_true
  | _ => rfl
theorem noMark_of {a : E} {e : Expr} (h : mat c a e = true) (op : CmpOp) : behindInMarks op e = false := by
  cases e with
  | Set l n p => cases a <;> exact absurd h Bool.false_ne_true
  | _ => rfl
theorem plainIx_of {a : E} {e : Expr} (h : mat c a e = true) : PlainIx e := by
  intro o i
  cases e with
  | Slice l n p q => cases a <;> exact absurd h Bool.false_ne_true
  | _ => rfl
theorem attr_of' {a : E} {e : Expr} (h : mat c a e = true) (name : Str) (env : Env) : attributeBase e name env (eval e env) = eval e env := by
  unfold attributeBase
  cases e with
  | Call f args kw p =>
    cases f with
    | Name id q =>
      cases args with
      | nil =>
        cases kw with
        | nil => cases a <;> exact absurd h Bool.false_ne_true
        | cons _ _ => rfl
      | cons _ _ => rfl
    | _ => rfl
  | _ => rfl
theorem noStar_of : ∀ {a : E} {es : List Expr}, matL c a es = true → ∀ (env : Env) (pos : Pos), (backTo pos (starEach es env)).any (·.1) = false
  | .nil, es, h, env, pos => by
    cases es with
    | nil => rfl
    | cons _ _ => simp [mL_nil, mL_cons] at h
  | .cons a r, es, h, env, pos => by
    cases es with
    | nil => simp [mL_nil, mL_cons] at h
    | cons e es =>
      simp only [mL_nil, mL_cons, Bool.and_eq_true] at h
      rw [star_of h.1]
      cases hq : starEach es env with
      | nil => simp [backTo]
      | cons q qs =>
        have ih := noStar_of h.2 env pos
        rw [hq] at ih
        simp only [backTo, List.map_cons, List.any_cons] at ih ⊢
        simpa using ih
end
end TL
/-! T7: expressions, one by one -/
namespace TL
open PySem PySem.Spec L2
set_option autoImplicit false
abbrev rE (X : Cx) (W : WX) (γ : Str → Option D) (R : Str → Option (List Vl → Mu → Rs Vl)) (a : E) : TE := tX X.mg W X.K (ev R γ a)
abbrev rL (X : Cx) (W : WX) (γ : Str → Option D) (R : Str → Option (List Vl → Mu → Rs Vl)) (a : E) : TA := tXL X.mg W X.K (evL R γ a)
abbrev rB (X : Cx) (W : WX) (γ : Str → Option D) (R : Str → Option (List Vl → Mu → Rs Vl)) (a : E) : TT := tXB X.mg W X.K (evB R γ a)
abbrev rP (X : Cx) (W : WX) (γ : Str → Option D) (R : Str → Option (List Vl → Mu → Rs Vl)) (a : E) : TO := tXP X.mg W X.K (evP R γ a)
section
variable {K : PySem.W.Frag} {P : Addr → Prop} {H H1 H2 : Hp} {as as1 as2 : List Addr} {μ μ1 μ2 : Mu} {σ : L2.St} {ρ : Ro} {Q : VK}
theorem SlOk.vl {H0 : Hp} {v : V} {x : Vl} (h : SlOk K P H as μ v x) : VlOk P H as μ K H0 v x := by
  cases x with
  | dt d => exact h
  | hd n => exact h
  | fr xs => exact h.elim
  | scr ns => exact h
/-- a handle's list is frozen -/
theorem Ex.off {n : Nat} : Ex P H as μ H as (μ.set n none) where
  zp := fun _ h => h.elim
  pre := List.prefix_refl as
  dom := fun _ h => h
  keep := fun _ _ h _ _ _ => h
  tab := fun _ h => h
  old := fun m e hm h => by
    by_cases q : n = m
    · subst q
      by_cases z : n < μ.length
      · rw [List.getElem?_set_self z] at h; cases h
      · rw [List.getElem?_eq_none (by simpa using z)] at h; cases h
    · rw [List.getElem?_set_ne q] at h
      exact ⟨e, h⟩
  new := fun m p hn e => by
    have := (List.getElem?_eq_some_iff.mp e).1
    omega
theorem set_none {n m : Nat} {e : Ent} (h : (μ.set n none)[m]? = some (some e)) : m ≠ n ∧ μ[m]? = some (some e) := by
  by_cases q : n = m
  · subst q
    by_cases z : n < μ.length
    · rw [List.getElem?_set_self z] at h; cases h
    · rw [List.getElem?_eq_none (by simpa using z)] at h; cases h
  · rw [List.getElem?_set_ne q] at h
    exact ⟨fun z => q z.symm, h⟩
theorem Wd.off (w : Wd P H as μ) (n : Nat) : Wd P H as (μ.set n none) where
  len := by rw [List.length_set]; exact w.len
  obj := fun m e h => by
    obtain ⟨h1, h2⟩ := set_none h
    obtain ⟨p, e1, e2, e3⟩ := w.obj m e h2
    refine ⟨p, e1, e2, ?_⟩
    cases e with
    | lst xs =>
      obtain ⟨vs, q1, q2⟩ := e3
      exact ⟨vs, q1, q2.ex Ex.off⟩
    | hds ns =>
      obtain ⟨ps, q1, q2⟩ := e3
      exact ⟨ps, q1, q2.ex (Ex.off (P := P) (H := H))⟩
  pt := w.pt
  inj := fun n1 m1 p e f a b h1 h2 => w.inj n1 m1 p e f a b (set_none h1).2 (set_none h2).2
theorem Ans.of {H0 : Hp} {z : Vl} (hd : ∀ a, H0 a ≠ none → H a ≠ none) (q : ∀ H' as', Ex P H as μ H' as' μ → Wd P H' as' μ → ∀ v, VlOk P H' as' μ K H0 v z → Q v H') : Ans K P H as μ z Q :=
  fun v H' e w o => q H' as e w v (o.back hd)
end
section
variable {X : Cx} {c : MC} {W : WX} {γ : Str → Option D} {R : Str → Option (List Vl → Mu → Rs Vl)} {k : Nat} (co : Co X c W γ R k)
include co
theorem e_var {i : Nat} {e : Expr} (h : mat c (.var i) e = true) : PE X e (rE X W γ R (.var i)) := by
  cases e with
  | Name x pos =>
    obtain ⟨h1, h2, h3, h4⟩ := co.vis (show visB c i x = true from h)
    refine (pe_var h1 h2 h3 h4).imp fun σ H Q ⟨ρ, μ, P, as, w, ro, f⟩ => ?_
    simp only [ev] at f
    cases q : ρ[i]? with
    | none => rw [q] at f; exact f.elim
    | some o =>
      cases o with
      | none => rw [q] at f; exact f.elim
      | some y =>
        rw [q] at f
        obtain ⟨v, hv, sl⟩ := ro.2.1 i y q
        exact ⟨v, hv, f H as Ex.refl w v sl.vl⟩
  | _ => (first | exact absurd h Bool.false_ne_true | simp [m_var] at h)
theorem e_frz {i : Nat} {e : Expr} (h : mat c (.frz i) e = true) : PE X e (rE X W γ R (.frz i)) := by
  cases e with
  | Name x pos =>
    obtain ⟨h1, h2, h3, h4⟩ := co.vis (show visB c i x = true from h)
    refine (pe_var h1 h2 h3 h4).imp fun σ H Q ⟨ρ, μ, P, as, w, ro, f⟩ => ?_
    simp only [ev] at f
    split at f
    · rename_i n q
      split at f
      · rename_i xs qn
        obtain ⟨v, hv, p, hp, rfl⟩ := ro.2.1 i _ q
        refine ⟨_, hv, f H as Ex.off (w.off n) _ ?_⟩
        obtain ⟨p', e1, e2, vs, q1, q2⟩ := w.obj n _ qn
        rw [hp] at e1
        cases e1
        refine .lst q1 ?_ (q2.ex Ex.off)
        rintro (z | ⟨m, e, z1, z2⟩)
        · exact e2 z
        · obtain ⟨z3, z4⟩ := set_none z2
          exact z3 (w.inj m n p e _ z1 hp z4 qn)
      · exact f.elim
    · exact f.elim
  | _ => (first | exact absurd h Bool.false_ne_true | simp [m_frz] at h)
theorem e_cst {d : D} {e : Expr} (h : mat c (.cst d) e = true) : PE X e (rE X W γ R (.cst d)) := by
  cases e with
  | Constant q n pos =>
    have h' : constM d q = true := h
    cases d <;> cases q <;> simp [constM] at h'
    · exact pe_non.imp fun σ H Q ⟨ρ, μ, P, as, w, ro, f⟩ => f H as Ex.refl w _ Dm.non
    · subst h'
      exact pe_bl.imp fun σ H Q ⟨ρ, μ, P, as, w, ro, f⟩ => f H as Ex.refl w _ (Dm.bl _)
    · subst h'
      exact pe_int.imp fun σ H Q ⟨ρ, μ, P, as, w, ro, f⟩ => f H as Ex.refl w _ (Dm.int _)
    · subst h'
      exact pe_str.imp fun σ H Q ⟨ρ, μ, P, as, w, ro, f⟩ => f H as Ex.refl w _ (Dm.str _)
  | _ => (first | exact absurd h Bool.false_ne_true | simp [m_cst] at h)
theorem e_glb {x : Str} {e : Expr} (h : mat c (.glb x) e = true) : PE X e (rE X W γ R (.glb x)) := by
  cases e with
  | Name y pos =>
    simp only [m_glb, Bool.and_eq_true, decide_eq_true_eq] at h
    obtain ⟨rfl, h⟩ := h
    obtain ⟨h1, h2⟩ := co.gl h
    cases q : γ x with
    | none =>
      refine ⟨fun pins s σ H Q I ⟨ρ, μ, P, as, w, ro, f⟩ => ?_⟩
      simp only [ev, q] at f
      exact f.elim
    | some d =>
      obtain ⟨u, v, e1, e2, e3⟩ := co.gam x d q
      refine (pe_glob h1 e1 e2 h2).imp fun σ H Q ⟨ρ, μ, P, as, w, ro, f⟩ => ?_
      simp only [ev, q] at f
      exact f H as Ex.refl w v (e3 _ _)
  | _ => (first | exact absurd h Bool.false_ne_true | simp [m_glb] at h)
theorem e_bin {op : Operator} {a b : E} {e : Expr} (ha : ∀ l, mat c a l = true → PE X l (rE X W γ R a)) (hb : ∀ l, mat c b l = true → PE X l (rE X W γ R b)) (h : mat c (.bin op a b) e = true) : PE X e (rE X W γ R (.bin op a b)) := by
  cases e with
  | BinOp l o r pos =>
    simp only [m_bin, Bool.and_eq_true, decide_eq_true_eq] at h
    obtain ⟨⟨rfl, h1⟩, h2⟩ := h
    refine (pe_op (bin_ok op) (ha l h1) (hb r h2)).imp fun σ H Q ⟨ρ, μ, P, as, w, ro, f⟩ => ?_
    simp only [ev] at f
    refine ⟨ρ, μ, P, as, w, ro, (Fin.bind f).mono fun x μ1 H1 as1 e1 ⟨_, w1, f1⟩ v vo => ?_⟩
    refine ⟨ρ, μ1, P, as1, w1, ro.ex e1, (Fin.bind f1).mono fun y μ2 H2 as2 e2 ⟨_, w2, f2⟩ v2 vo2 => ?_⟩
    split at f2
    · rename_i d d2 q1 q2
      obtain ⟨z, hz, q⟩ := Fin.of f2
      exact ⟨P, as2, μ2, d, d2, z, w2, (vo.ex e2).dv w2 q1, vo2.dv w2 q2, hz, Ans.of (e1.trans e2).dom q⟩
    · exact f2.elim
  | _ => (first | exact absurd h Bool.false_ne_true | simp [m_bin] at h)
theorem e_neg {a : E} {e : Expr} (ha : ∀ l, mat c a l = true → PE X l (rE X W γ R a)) (h : mat c (.neg a) e = true) : PE X e (rE X W γ R (.neg a)) := by
  cases e with
  | UnaryOp o l pos =>
    cases o <;> (first | exact absurd h Bool.false_ne_true | simp [m_neg] at h)
    refine (pe_un un_neg (ha l h)).imp fun σ H Q ⟨ρ, μ, P, as, w, ro, f⟩ => ?_
    simp only [ev] at f
    refine ⟨ρ, μ, P, as, w, ro, (Fin.bind f).mono fun x μ1 H1 as1 e1 ⟨_, w1, f1⟩ v vo => ?_⟩
    cases x with
    | dt d =>
      cases d with
      | int i =>
        cases (show Dm _ H1 v (.int i) from vo)
        exact ⟨i, rfl, f1 H1 as1 Ex.refl w1 _ (Dm.int _)⟩
      | _ => exact f1.elim
    | _ => exact f1.elim
  | _ => (first | exact absurd h Bool.false_ne_true | simp [m_neg] at h)
theorem e_not {a : E} {e : Expr} (ha : ∀ l, mat c a l = true → PE X l (rE X W γ R a)) (h : mat c (.not a) e = true) : PE X e (rE X W γ R (.not a)) := by
  cases e with
  | UnaryOp o l pos =>
    cases o <;> (first | exact absurd h Bool.false_ne_true | simp [m_not] at h)
    refine (pe_notT (ha l h.1)).imp fun σ H Q ⟨ρ, μ, P, as, w, ro, f⟩ => ?_
    simp only [ev] at f
    refine ⟨ρ, μ, P, as, w, ro, (Fin.bind f).mono fun x μ1 H1 as1 e1 ⟨_, w1, f1⟩ v vo => ?_⟩
    obtain ⟨z, hz, q⟩ := Fin.of f1
    rw [Option.map_eq_some_iff] at hz
    obtain ⟨b, hb, rfl⟩ := hz
    unfold truV at hb
    rw [Option.bind_eq_some_iff] at hb
    obtain ⟨d, hd, hb⟩ := hb
    exact ⟨b, tru_dv (vo.dv w1 hd) hb, q H1 as1 Ex.refl w1 _ (Dm.bl _)⟩
  | _ => (first | exact absurd h Bool.false_ne_true | simp [m_not] at h)
theorem e_cmp {op : CmpOp} {a b : E} {e : Expr} (ha : ∀ l, mat c a l = true → PE X l (rE X W γ R a)) (hb : ∀ l, mat c b l = true → PE X l (rE X W γ R b)) (h : mat c (.cmp op a b) e = true) : PE X e (rE X W γ R (.cmp op a b)) := by
  cases e with
  | Compare l os rs pos =>
    cases os with
    | nil => (first | exact absurd h Bool.false_ne_true | simp [m_cmp] at h)
    | cons o os =>
      cases os with
      | cons _ _ => (first | exact absurd h Bool.false_ne_true | simp [m_cmp] at h)
      | nil =>
        cases rs with
        | nil => (first | exact absurd h Bool.false_ne_true | simp [m_cmp] at h)
        | cons r rs =>
          cases rs with
          | cons _ _ => (first | exact absurd h Bool.false_ne_true | simp [m_cmp] at h)
          | nil =>
            simp only [m_cmp, Bool.and_eq_true, decide_eq_true_eq] at h
            obtain ⟨⟨rfl, h1⟩, h2⟩ := h
            refine (pe_cmpR (cmp_ok (by have := co.hu; omega) op) (ha l h1) (hb r h2) (noMark_of h2 op)).imp fun σ H Q ⟨ρ, μ, P, as, w, ro, f⟩ => ?_
            simp only [ev] at f
            refine ⟨ρ, μ, P, as, w, ro, (Fin.bind f).mono fun x μ1 H1 as1 e1 ⟨_, w1, f1⟩ v vo => ?_⟩
            refine ⟨ρ, μ1, P, as1, w1, ro.ex e1, (Fin.bind f1).mono fun y μ2 H2 as2 e2 ⟨_, w2, f2⟩ v2 vo2 => ?_⟩
            split at f2
            · rename_i d d2 q1 q2
              obtain ⟨z, hz, q⟩ := Fin.of f2
              exact ⟨P, as2, μ2, d, d2, z, w2, (vo.ex e2).dv w2 q1, vo2.dv w2 q2, hz, Ans.of (e1.trans e2).dom q⟩
            · exact f2.elim
  | _ => (first | exact absurd h Bool.false_ne_true | simp [m_cmp] at h)
theorem e_chn {o1 o2 : CmpOp} {a b d : E} {e : Expr} (ha : ∀ l, mat c a l = true → PE X l (rE X W γ R a)) (hb : ∀ l, mat c b l = true → PE X l (rE X W γ R b)) (hd : ∀ l, mat c d l = true → PE X l (rE X W γ R d)) (h : mat c (.chn o1 o2 a b d) e = true) : PE X e (rE X W γ R (.chn o1 o2 a b d)) ∧ PT X e (rB X W γ R (.chn o1 o2 a b d)) := by
  cases e with
  | Compare l os rs pos =>
    have hs : ∃ r t, os = [o1, o2] ∧ rs = [r, t] ∧ mat c a l = true ∧ mat c b r = true ∧ mat c d t = true := by
      match os, rs, h with
      | [p1, p2], [r, t], h =>
        simp only [m_chn, Bool.and_eq_true, decide_eq_true_eq] at h
        obtain ⟨⟨⟨⟨rfl, rfl⟩, h1⟩, h2⟩, h3⟩ := h
        exact ⟨r, t, rfl, rfl, h1, h2, h3⟩
    obtain ⟨r, t, rfl, rfl, h1, h2, h3⟩ := hs
    have hm : lastMarks [o1, o2] [r, t] = false := noMark_of h3 o2
    have hu : X.A.units + 65 < cLine := by have := co.hu; omega
    have main : ∀ σ H (Q : VK), rE X W γ R (.chn o1 o2 a b d) σ H Q → tChain (rD2 X.K (cmpV o1)) (rD2 X.K (cmpV o2)) (rE X W γ R a) (rE X W γ R b) (rE X W γ R d) σ H Q := by
      rintro σ H Q ⟨ρ, μ, P, as, w, ro, f⟩
      simp only [ev] at f
      refine ⟨ρ, μ, P, as, w, ro, (Fin.bind f).mono fun x μ1 H1 as1 e1 ⟨_, w1, f1⟩ v vo => ?_⟩
      refine ⟨ρ, μ1, P, as1, w1, ro.ex e1, (Fin.bind f1).mono fun y μ2 H2 as2 e2 ⟨_, w2, f2⟩ v2 vo2 => ?_⟩
      split at f2
      · rename_i d1 d2 q1 q2
        obtain ⟨kk, hk, q⟩ := Fin.of (Fin.bind f2)
        refine ⟨P, as2, μ2, d1, d2, .dt (.bool kk), w2, (vo.ex e2).dv w2 q1, vo2.dv w2 q2, by unfold cmpV; rw [hk]; rfl, fun v3 H3 e3 w3 vo3 => ?_⟩
        cases (show Dm _ H3 v3 (.bool kk) from vo3)
        refine ⟨kk, rfl, ?_⟩
        obtain ⟨_, _, f3⟩ := q H3 as2 e3 w3
        cases kk with
        | false =>
          rw [if_neg Bool.false_ne_true] at f3 ⊢
          exact f3 H3 as2 Ex.refl w3 _ (Dm.bl _)
        | true =>
          rw [if_pos rfl] at f3 ⊢
          refine ⟨ρ, μ2, P, as2, w3, (ro.ex e1).ex (e2.trans e3), (Fin.bind f3).mono fun z μ4 H4 as4 e4 ⟨_, w4, f4⟩ v4 vo4 => ?_⟩
          split at f4
          · rename_i d3 d4 q3 q4
            obtain ⟨zz, hz, q⟩ := Fin.of f4
            exact ⟨P, as4, μ4, d3, d4, zz, w4, ((vo2.ex e3).ex e4).dv w4 q3, vo4.dv w4 q4, hz, Ans.of (((e1.trans e2).trans e3).trans e4).dom q⟩
          · exact f4.elim
      · exact f2.elim
    refine ⟨(pe_chain (cmp_ok hu o1) (cmp_ok hu o2) (ha l h1) (hb r h2) (hd t h3) hm).imp main, (pt_chain (cmp_ok hu o1) (cmp_ok hu o2) (ha l h1) (hb r h2) (hd t h3) hm).imp fun σ H Q ⟨ρ, μ, P, as, w, ro, f⟩ => ?_⟩
    refine main σ H _ ⟨ρ, μ, P, as, w, ro, ?_⟩
    have isB : ∀ x μ', ev R γ (.chn o1 o2 a b d) ρ μ = .ok x μ' → ∃ bb, x = .dt (.bool bb) := fun x μ' q => by
      simp only [ev] at q
      cases q1 : ev R γ a ρ μ with
      | ok y1 m1 =>
        rw [q1] at q
        simp only [Rs.bind] at q
        cases q2 : ev R γ b ρ m1 with
        | ok y2 m2 =>
          rw [q2] at q
          simp only at q
          split at q
          · rename_i d1 d2 g1 g2
            cases q3 : cmpF o1 d1 d2 with
            | none => rw [q3] at q; cases q
            | some kk =>
              rw [q3] at q
              simp only [Rs.of] at q
              cases kk with
              | false => cases q; exact ⟨_, rfl⟩
              | true =>
                rw [if_pos rfl] at q
                cases q4 : ev R γ d ρ m2 with
                | ok y3 m3 =>
                  rw [q4] at q
                  simp only at q
                  split at q
                  · rename_i d3 d4 g3 g4
                    cases q5 : cmpF o2 d3 d4 with
                    | none => rw [q5] at q; cases q
                    | some kk => rw [q5] at q; cases q; exact ⟨_, rfl⟩
                  · cases q
                | exc _ _ => rw [q4] at q; cases q
                | bad => rw [q4] at q; cases q
          · cases q
        | exc _ _ => rw [q2] at q; cases q
        | bad => rw [q2] at q; cases q
      | exc _ _ => rw [q1] at q; cases q
      | bad => rw [q1] at q; cases q
    unfold evB at f
    rw [show (E.chn o1 o2 a b d).isIfe = false from rfl, if_neg Bool.false_ne_true] at f
    cases q : ev R γ (.chn o1 o2 a b d) ρ μ with
    | ok x μ' =>
      obtain ⟨bb, rfl⟩ := isB x μ' q
      rw [q] at f
      intro H' as' e' w' v vo
      cases (show Dm _ H' v (.bool bb) from vo)
      exact ⟨bb, rfl, f H' as' e' w'⟩
    | exc _ _ => rw [q] at f; exact f
    | bad => rw [q] at f; exact f
  | _ => (first | exact absurd h Bool.false_ne_true | simp [m_chn] at h)
end
end TL
/-! T8: expressions, one by one (on) -/
namespace TL
open PySem PySem.Spec L2
set_option autoImplicit false
section
variable {X : Cx} {c : MC} {W : WX} {γ : Str → Option D} {R : Str → Option (List Vl → Mu → Rs Vl)} {k : Nat} (co : Co X c W γ R k)
include co
theorem e_cmpT {op : CmpOp} {a b : E} {e : Expr} (ha : ∀ l, mat c a l = true → PE X l (rE X W γ R a)) (hb : ∀ l, mat c b l = true → PE X l (rE X W γ R b)) (h : mat c (.cmp op a b) e = true) : PT X e (rB X W γ R (.cmp op a b)) := by
  cases e with
  | Compare l os rs pos =>
    have hs : ∃ r, os = [op] ∧ rs = [r] ∧ mat c a l = true ∧ mat c b r = true := by
      match os, rs, h with
      | [p1], [r], h =>
        simp only [m_cmp, Bool.and_eq_true, decide_eq_true_eq] at h
        obtain ⟨⟨rfl, h1⟩, h2⟩ := h
        exact ⟨r, rfl, rfl, h1, h2⟩
    obtain ⟨r, rfl, rfl, h1, h2⟩ := hs
    refine (pt_cmpR (cmp_ok (by have := co.hu; omega) op) (ha l h1) (hb r h2) (noMark_of h2 op)).imp fun σ H Q ⟨ρ, μ, P, as, w, ro, f⟩ => ?_
    unfold evB at f
    rw [show (E.cmp op a b).isIfe = false from rfl, if_neg Bool.false_ne_true] at f
    simp only [ev] at f
    refine ⟨ρ, μ, P, as, w, ro, ?_⟩
    cases q1 : ev R γ a ρ μ with
    | ok x μ1 =>
      rw [q1] at f
      intro H1 as1 e1 w1 v vo
      refine ⟨ρ, μ1, P, as1, w1, ro.ex e1, ?_⟩
      simp only [Rs.bind] at f
      cases q2 : ev R γ b ρ μ1 with
      | ok y μ2 =>
        rw [q2] at f
        intro H2 as2 e2 w2 v2 vo2
        simp only at f
        cases g1 : drf μ2 x with
        | none => rw [g1] at f; exact f.elim
        | some d1 =>
          cases g2 : drf μ2 y with
          | none => rw [g1, g2] at f; exact f.elim
          | some d2 =>
            rw [g1, g2] at f
            dsimp only at f
            cases g3 : cmpF op d1 d2 with
            | none => rw [g3] at f; exact f.elim
            | some kk =>
              rw [g3] at f
              refine ⟨P, as2, μ2, d1, d2, .dt (.bool kk), w2, (vo.ex e2).dv w2 g1, vo2.dv w2 g2, by unfold cmpV; rw [g3]; rfl, fun v3 H3 e3 w3 vo3 => ?_⟩
              cases (show Dm _ H3 v3 (.bool kk) from vo3)
              exact ⟨kk, rfl, f H3 as2 ((e1.trans e2).trans e3) w3⟩
      | exc cc μ2 =>
        rw [q2] at f
        exact fun H2 as2 C e2 w2 g => f H2 as2 C (e1.trans e2) w2 g
      | bad => rw [q2] at f; exact f.elim
    | exc cc μ1 => rw [q1] at f; exact f
    | bad => rw [q1] at f; exact f
  | _ => (first | exact absurd h Bool.false_ne_true | simp [m_cmp] at h)
/-- a test that is the value's truth -/
theorem t_plain {a : E} {e : Expr} (ha : PE X e (rE X W γ R a)) (hi : a.isIfe = false) (he : ∀ whole, isTrue e X.env whole = (do let v ← whole; standAt e.pos; holding [v] (truthy v))) : PT X e (rB X W γ R a) := by
  refine (pt_truth ha he).imp fun σ H Q ⟨ρ, μ, P, as, w, ro, f⟩ => ?_
  unfold evB at f
  rw [hi, if_neg Bool.false_ne_true] at f
  refine ⟨ρ, μ, P, as, w, ro, (Fin.bind f).mono fun x μ1 H1 as1 e1 ⟨_, w1, f1⟩ v vo => ?_⟩
  obtain ⟨b, hb, q⟩ := Fin.of f1
  unfold truV at hb
  rw [Option.bind_eq_some_iff] at hb
  obtain ⟨d, hd, hb⟩ := hb
  exact ⟨b, tru_dv (vo.dv w1 hd) hb, q H1 as1 Ex.refl w1⟩
theorem t_not {a : E} {e : Expr} (ha : ∀ l, mat c a l = true → PT X l (rB X W γ R a)) (h : mat c (.not a) e = true) : PT X e (rB X W γ R (.not a)) := by
  cases e with
  | UnaryOp o l pos =>
    cases o <;> (first | exact absurd h Bool.false_ne_true | simp [m_not] at h)
    obtain ⟨h, hi⟩ := h
    refine (pt_not (ha l h)).imp fun σ H Q ⟨ρ, μ, P, as, w, ro, f⟩ => ?_
    refine ⟨ρ, μ, P, as, w, ro, ?_⟩
    unfold evB at f ⊢
    rw [show (E.not a).isIfe = false from rfl, if_neg Bool.false_ne_true] at f
    rw [hi, if_neg Bool.false_ne_true]
    simp only [ev] at f
    cases q1 : ev R γ a ρ μ with
    | ok x μ1 =>
      rw [q1] at f
      simp only [Rs.bind] at f ⊢
      cases g : truV μ1 x with
      | none => rw [g] at f; exact f.elim
      | some b => rw [g] at f; exact f
    | exc cc μ1 => rw [q1] at f; exact f
    | bad => rw [q1] at f; exact f
  | _ => (first | exact absurd h Bool.false_ne_true | simp [m_not] at h)
/-! ### rows -/
theorem l_nil {l : List Expr} (h : matL c .nil l = true) : PA X l (rL X W γ R .nil) := by
  cases l with
  | nil => exact pa_nil.imp fun σ H Q ⟨ρ, μ, P, as, w, ro, f⟩ => f H as Ex.refl w [] .nil
  | cons _ _ => (first | exact absurd h Bool.false_ne_true | simp [mL_nil, mL_cons] at h)
theorem l_cons {a es : E} {l : List Expr} (ha : ∀ l, mat c a l = true → PE X l (rE X W γ R a)) (hs : ∀ l, matL c es l = true → PA X l (rL X W γ R es)) (h : matL c (.cons a es) l = true) : PA X l (rL X W γ R (.cons a es)) := by
  cases l with
  | nil => (first | exact absurd h Bool.false_ne_true | simp [mL_nil, mL_cons] at h)
  | cons e l =>
    simp only [mL_nil, mL_cons, Bool.and_eq_true] at h
    refine (pa_cons (ha e h.1) (hs l h.2) (star_of h.1 l X.env)).imp fun σ H Q ⟨ρ, μ, P, as, w, ro, f⟩ => ?_
    simp only [evL] at f
    refine ⟨ρ, μ, P, as, w, ro, (Fin.bind f).mono fun x μ1 H1 as1 e1 ⟨_, w1, f1⟩ v vo => ?_⟩
    refine ⟨ρ, μ1, P, as1, w1, ro.ex e1, (Fin.bind f1).mono fun xs μ2 H2 as2 e2 ⟨_, w2, f2⟩ vs vos => ?_⟩
    exact f2 H2 as2 Ex.refl w2 _ (.cons (vo.ex e2) (VlsOk.back e1.dom vos))
/-! ### and, or -/
theorem b_and : ∀ (es : E) (l : List Expr) (pos : Pos), (∀ a e, E.In a es → mat c a e = true → PE X e (rE X W γ R a)) → matL c es l = true → 1 ≤ l.length → PE X (.BoolOp .And l pos) (tX X.mg W X.K (evAnd R γ es)) := by
  intro es
  induction es with
  | cons a r _ ih =>
    intro l pos all h hl
    cases l with
    | nil => cases hl
    | cons x rest =>
      simp only [mL_nil, mL_cons, Bool.and_eq_true] at h
      cases rest with
      | nil =>
        have er : r.isNil = true := by cases r <;> first | rfl | exact absurd h Bool.false_ne_true | exact absurd h.2 Bool.false_ne_true | exact absurd h.1.2 Bool.false_ne_true
        refine (pe_one (all a x (.inl rfl) h.1)).imp fun σ H Q ⟨ρ, μ, P, as, w, ro, f⟩ => ?_
        simp only [evAnd, er, if_true] at f
        refine ⟨ρ, μ, P, as, w, ro, (Fin.bind f).mono fun y μ1 H1 as1 e1 ⟨_, w1, f1⟩ v vo => ?_⟩
        exact f1 H1 as1 Ex.refl w1 v vo
      | cons y rest =>
        have er : r.isNil = false := by cases r <;> first | rfl | exact absurd h Bool.false_ne_true | exact absurd h.2 Bool.false_ne_true | exact absurd h.1.2 Bool.false_ne_true
        refine (pe_andT (all a x (.inl rfl) h.1) (ih (y :: rest) pos (fun a e i => all a e (.inr i)) h.2 (by simp))).imp fun σ H Q ⟨ρ, μ, P, as, w, ro, f⟩ => ?_
        simp only [evAnd, er, Bool.false_eq_true, if_false] at f
        refine ⟨ρ, μ, P, as, w, ro, (Fin.bind f).mono fun y μ1 H1 as1 e1 ⟨_, w1, f1⟩ v vo => ?_⟩
        obtain ⟨kk, hk, q⟩ := Fin.of (Fin.bind f1)
        unfold truV at hk
        rw [Option.bind_eq_some_iff] at hk
        obtain ⟨d, hd, hk⟩ := hk
        refine ⟨kk, tru_dv (vo.dv w1 hd) hk, ?_⟩
        obtain ⟨_, _, f2⟩ := q H1 as1 Ex.refl w1
        cases kk with
        | true =>
          rw [if_pos rfl] at f2 ⊢
          exact ⟨ρ, μ1, P, as1, w1, ro.ex e1, f2.mono fun z μ3 H3 as3 e3 q v vo => q v (vo.back e1.dom)⟩
        | false =>
          rw [if_neg Bool.false_ne_true] at f2 ⊢
          exact f2 H1 as1 Ex.refl w1 v vo
  | _ =>
    intro l pos all h hl
    cases l with
    | nil => cases hl
    | cons _ _ => (first | exact absurd h Bool.false_ne_true | simp [mL_nil, mL_cons] at h)
theorem b_or : ∀ (es : E) (l : List Expr) (pos : Pos), (∀ a e, E.In a es → mat c a e = true → PE X e (rE X W γ R a)) → matL c es l = true → 1 ≤ l.length → PE X (.BoolOp .Or l pos) (tX X.mg W X.K (evOr R γ es)) := by
  intro es
  induction es with
  | cons a r _ ih =>
    intro l pos all h hl
    cases l with
    | nil => cases hl
    | cons x rest =>
      simp only [mL_nil, mL_cons, Bool.and_eq_true] at h
      cases rest with
      | nil =>
        have er : r.isNil = true := by cases r <;> first | rfl | exact absurd h Bool.false_ne_true | exact absurd h.2 Bool.false_ne_true | exact absurd h.1.2 Bool.false_ne_true
        refine (pe_one (all a x (.inl rfl) h.1)).imp fun σ H Q ⟨ρ, μ, P, as, w, ro, f⟩ => ?_
        simp only [evOr, er, if_true] at f
        refine ⟨ρ, μ, P, as, w, ro, (Fin.bind f).mono fun y μ1 H1 as1 e1 ⟨_, w1, f1⟩ v vo => ?_⟩
        exact f1 H1 as1 Ex.refl w1 v vo
      | cons y rest =>
        have er : r.isNil = false := by cases r <;> first | rfl | exact absurd h Bool.false_ne_true | exact absurd h.2 Bool.false_ne_true | exact absurd h.1.2 Bool.false_ne_true
        refine (pe_orT (all a x (.inl rfl) h.1) (ih (y :: rest) pos (fun a e i => all a e (.inr i)) h.2 (by simp))).imp fun σ H Q ⟨ρ, μ, P, as, w, ro, f⟩ => ?_
        simp only [evOr, er, Bool.false_eq_true, if_false] at f
        refine ⟨ρ, μ, P, as, w, ro, (Fin.bind f).mono fun y μ1 H1 as1 e1 ⟨_, w1, f1⟩ v vo => ?_⟩
        obtain ⟨kk, hk, q⟩ := Fin.of (Fin.bind f1)
        unfold truV at hk
        rw [Option.bind_eq_some_iff] at hk
        obtain ⟨d, hd, hk⟩ := hk
        refine ⟨kk, tru_dv (vo.dv w1 hd) hk, ?_⟩
        obtain ⟨_, _, f2⟩ := q H1 as1 Ex.refl w1
        cases kk with
        | true =>
          rw [if_pos rfl] at f2 ⊢
          exact f2 H1 as1 Ex.refl w1 v vo
        | false =>
          rw [if_neg Bool.false_ne_true] at f2 ⊢
          exact ⟨ρ, μ1, P, as1, w1, ro.ex e1, f2.mono fun z μ3 H3 as3 e3 q v vo => q v (vo.back e1.dom)⟩
  | _ =>
    intro l pos all h hl
    cases l with
    | nil => cases hl
    | cons _ _ => (first | exact absurd h Bool.false_ne_true | simp [mL_nil, mL_cons] at h)
end
end TL
/-! T9: expressions, one by one (on) -/
namespace TL
open PySem PySem.Spec L2
set_option autoImplicit false
section
variable {X : Cx} {c : MC} {W : WX} {γ : Str → Option D} {R : Str → Option (List Vl → Mu → Rs Vl)} {k : Nat} (co : Co X c W γ R k)
include co
/-- a test of and -/
theorem bt_and : ∀ (es : E) (l : List Expr) (pos : Pos), (∀ a e, E.In a es → mat c a e = true → PT X e (rB X W γ R a)) → matL c es l = true → es.noIfe = true → 1 ≤ l.length →
    PW X (.BoolOp .And l pos) (tXB X.mg W X.K fun ρ μ => (evAnd R γ es ρ μ).bind fun x μ1 => Rs.of (truV μ1 x) μ1) := by
  intro es
  induction es with
  | cons a r _ ih =>
    intro l pos all h hn hl
    cases l with
    | nil => cases hl
    | cons x rest =>
      simp only [mL_nil, mL_cons, Bool.and_eq_true] at h
      simp only [E.noIfe, Bool.and_eq_true, Bool.not_eq_true'] at hn
      cases rest with
      | nil =>
        have er : r.isNil = true := by cases r <;> first | rfl | exact absurd h Bool.false_ne_true | exact absurd h.2 Bool.false_ne_true | exact absurd h.1.2 Bool.false_ne_true
        refine (pw_and1 (all a x (.inl rfl) h.1)).imp fun σ H Q ⟨ρ, μ, P, as, w, ro, f⟩ => ?_
        simp only [evAnd, er, if_true] at f
        refine ⟨ρ, μ, P, as, w, ro, ?_⟩
        unfold evB
        rw [hn.1, if_neg Bool.false_ne_true]
        cases q1 : ev R γ a ρ μ with
        | ok x μ1 => rw [q1] at f; exact f
        | exc cc μ1 => rw [q1] at f; exact f
        | bad => rw [q1] at f; exact f
      | cons y rest =>
        have er : r.isNil = false := by cases r <;> first | rfl | exact absurd h Bool.false_ne_true | exact absurd h.2 Bool.false_ne_true | exact absurd h.1.2 Bool.false_ne_true
        refine (pw_and (all a x (.inl rfl) h.1) (ih (y :: rest) pos (fun a e i => all a e (.inr i)) h.2 hn.2 (by simp))).imp fun σ H Q ⟨ρ, μ, P, as, w, ro, f⟩ => ?_
        simp only [evAnd, er, Bool.false_eq_true, if_false] at f
        refine ⟨ρ, μ, P, as, w, ro, ?_⟩
        unfold evB
        rw [hn.1, if_neg Bool.false_ne_true]
        cases q1 : ev R γ a ρ μ with
        | ok x μ1 =>
          rw [q1] at f
          simp only [Rs.bind] at f ⊢
          cases g : truV μ1 x with
          | none => rw [g] at f; exact f.elim
          | some kk =>
            rw [g] at f
            intro H1 as1 e1 w1
            cases kk with
            | true =>
              simp only [Rs.of, if_true] at f ⊢
              exact ⟨ρ, μ1, P, as1, w1, ro.ex e1, Fin.step e1 f⟩
            | false =>
              simp only [Rs.of, Bool.false_eq_true, if_false, g] at f ⊢
              exact f H1 as1 e1 w1
        | exc cc μ1 => rw [q1] at f; exact f
        | bad => rw [q1] at f; exact f
  | _ =>
    intro l pos all h hn hl
    cases l with
    | nil => cases hl
    | cons _ _ => (first | exact absurd h Bool.false_ne_true | simp [mL_nil, mL_cons] at h)
theorem bt_or : ∀ (es : E) (l : List Expr) (pos : Pos), (∀ a e, E.In a es → mat c a e = true → PT X e (rB X W γ R a)) → matL c es l = true → es.noIfe = true → 1 ≤ l.length →
    PW X (.BoolOp .Or l pos) (tXB X.mg W X.K fun ρ μ => (evOr R γ es ρ μ).bind fun x μ1 => Rs.of (truV μ1 x) μ1) := by
  intro es
  induction es with
  | cons a r _ ih =>
    intro l pos all h hn hl
    cases l with
    | nil => cases hl
    | cons x rest =>
      simp only [mL_nil, mL_cons, Bool.and_eq_true] at h
      simp only [E.noIfe, Bool.and_eq_true, Bool.not_eq_true'] at hn
      cases rest with
      | nil =>
        have er : r.isNil = true := by cases r <;> first | rfl | exact absurd h Bool.false_ne_true | exact absurd h.2 Bool.false_ne_true | exact absurd h.1.2 Bool.false_ne_true
        refine (pw_or1 (all a x (.inl rfl) h.1)).imp fun σ H Q ⟨ρ, μ, P, as, w, ro, f⟩ => ?_
        simp only [evOr, er, if_true] at f
        refine ⟨ρ, μ, P, as, w, ro, ?_⟩
        unfold evB
        rw [hn.1, if_neg Bool.false_ne_true]
        cases q1 : ev R γ a ρ μ with
        | ok x μ1 => rw [q1] at f; exact f
        | exc cc μ1 => rw [q1] at f; exact f
        | bad => rw [q1] at f; exact f
      | cons y rest =>
        have er : r.isNil = false := by cases r <;> first | rfl | exact absurd h Bool.false_ne_true | exact absurd h.2 Bool.false_ne_true | exact absurd h.1.2 Bool.false_ne_true
        refine (pw_or (all a x (.inl rfl) h.1) (ih (y :: rest) pos (fun a e i => all a e (.inr i)) h.2 hn.2 (by simp))).imp fun σ H Q ⟨ρ, μ, P, as, w, ro, f⟩ => ?_
        simp only [evOr, er, Bool.false_eq_true, if_false] at f
        refine ⟨ρ, μ, P, as, w, ro, ?_⟩
        unfold evB
        rw [hn.1, if_neg Bool.false_ne_true]
        cases q1 : ev R γ a ρ μ with
        | ok x μ1 =>
          rw [q1] at f
          simp only [Rs.bind] at f ⊢
          cases g : truV μ1 x with
          | none => rw [g] at f; exact f.elim
          | some kk =>
            rw [g] at f
            intro H1 as1 e1 w1
            cases kk with
            | false =>
              simp only [Rs.of, Bool.false_eq_true, if_false] at f ⊢
              exact ⟨ρ, μ1, P, as1, w1, ro.ex e1, Fin.step e1 f⟩
            | true =>
              simp only [Rs.of, if_true, g] at f ⊢
              exact f H1 as1 e1 w1
        | exc cc μ1 => rw [q1] at f; exact f
        | bad => rw [q1] at f; exact f
  | _ =>
    intro l pos all h hn hl
    cases l with
    | nil => cases hl
    | cons _ _ => (first | exact absurd h Bool.false_ne_true | simp [mL_nil, mL_cons] at h)
theorem e_ife {t a b : E} {e : Expr} (ht : ∀ l, mat c t l = true → PT X l (rB X W γ R t)) (ha : ∀ l, mat c a l = true → PE X l (rE X W γ R a)) (hb : ∀ l, mat c b l = true → PE X l (rE X W γ R b)) (h : mat c (.ife t a b) e = true) : PE X e (rE X W γ R (.ife t a b)) := by
  cases e with
  | IfExp u l r pos =>
    simp only [m_ife, Bool.and_eq_true, Bool.not_eq_true'] at h
    obtain ⟨⟨⟨h1, h2⟩, h3⟩, hi⟩ := h
    refine (pe_ifExp (ht u h1) (ha l h2) (hb r h3)).imp fun σ H Q ⟨ρ, μ, P, as, w, ro, f⟩ => ?_
    simp only [ev] at f
    refine ⟨ρ, μ, P, as, w, ro, ?_⟩
    unfold evB
    rw [hi, if_neg Bool.false_ne_true]
    cases q1 : ev R γ t ρ μ with
    | ok x μ1 =>
      rw [q1] at f
      simp only [Rs.bind] at f ⊢
      cases g : truV μ1 x with
      | none => rw [g] at f; exact f.elim
      | some kk =>
        rw [g] at f
        intro H1 as1 e1 w1
        simp only [Rs.of] at f
        cases kk with
        | true =>
          rw [if_pos rfl] at f ⊢
          exact ⟨ρ, μ1, P, as1, w1, ro.ex e1, (Fin.step e1 f).mono fun z μ3 H3 as3 e3 q v vo => q v (vo.back e1.dom)⟩
        | false =>
          rw [if_neg Bool.false_ne_true] at f ⊢
          exact ⟨ρ, μ1, P, as1, w1, ro.ex e1, (Fin.step e1 f).mono fun z μ3 H3 as3 e3 q v vo => q v (vo.back e1.dom)⟩
    | exc cc μ1 => rw [q1] at f; exact f
    | bad => rw [q1] at f; exact f
  | _ => (first | exact absurd h Bool.false_ne_true | simp [m_ife] at h)
omit co in
theorem len_vls {P : Addr → Prop} {H H0 : Hp} {as : List Addr} {μ : Mu} : ∀ {vs : List V} {xs : List Vl}, VlsOk P H as μ X.K H0 vs xs → vs.length = xs.length
  | _, _, .nil => rfl
  | _, _, .cons _ t => by rw [List.length_cons, List.length_cons, len_vls t]
omit co in
theorem len_evL : ∀ {es : E} {l : List Expr}, matL c es l = true → ∀ {ρ : Ro} {μ μ' : Mu} {xs : List Vl}, evL R γ es ρ μ = .ok xs μ' → xs.length = l.length
  | .nil, l, h, ρ, μ, μ', xs, q => by
    cases l with
    | nil => simp only [evL] at q; cases q; rfl
    | cons _ _ => (first | exact absurd h Bool.false_ne_true | simp [mL_nil, mL_cons] at h)
  | .cons a r, l, h, ρ, μ, μ', xs, q => by
    cases l with
    | nil => (first | exact absurd h Bool.false_ne_true | simp [mL_nil, mL_cons] at h)
    | cons e l =>
      simp only [mL_nil, mL_cons, Bool.and_eq_true] at h
      simp only [evL] at q
      cases q1 : ev R γ a ρ μ with
      | ok x μ1 =>
        rw [q1] at q
        simp only [Rs.bind] at q
        cases q2 : evL R γ r ρ μ1 with
        | ok ys μ2 =>
          rw [q2] at q
          cases q
          rw [List.length_cons, List.length_cons, len_evL h.2 q2]
        | exc _ _ => rw [q2] at q; cases q
        | bad => rw [q2] at q; cases q
      | exc _ _ => rw [q1] at q; cases q
      | bad => rw [q1] at q; cases q
theorem e_tup {es : E} {e : Expr} (hs : ∀ l, matL c es l = true → PA X l (rL X W γ R es)) (h : mat c (.tup es) e = true) : PE X e (rE X W γ R (.tup es)) := by
  cases e with
  | Tuple l n pos =>
    simp only [m_tup, Bool.and_eq_true, decide_eq_true_eq] at h
    refine (pe_tup (hs l h.1)).imp fun σ H Q ⟨ρ, μ, P, as, w, ro, f⟩ => ?_
    simp only [ev] at f
    refine ⟨ρ, μ, P, as, w, ro, ?_⟩
    have f' := Fin.bind f
    cases q0 : evL R γ es ρ μ with
    | ok xs μ1 =>
      rw [q0] at f'
      intro H1 as1 e1 w1 vs vos
      obtain ⟨_, _, f1⟩ := f' H1 as1 e1 w1
      obtain ⟨z, hz, q⟩ := Fin.of f1
      rw [Option.map_eq_some_iff] at hz
      obtain ⟨ds, hz, rfl⟩ := hz
      have t := datas_nil_data hz vos
      refine ⟨by rw [len_vls vos, len_evL h.1 q0, sizeLine_eq]; omega, fun p hp => ?_⟩
      exact q _ _ (Ex.laid hp) (w1.laid hp) _ (tupOk w1 hp t)
    | exc cc μ1 => rw [q0] at f'; exact f'
    | bad => rw [q0] at f'; exact f'
  | _ => (first | exact absurd h Bool.false_ne_true | simp [m_tup] at h)
theorem e_lst {es : E} {e : Expr} (hs : ∀ l, matL c es l = true → PA X l (rL X W γ R es)) (h : mat c (.lst es) e = true) : PE X e (rE X W γ R (.lst es)) := by
  cases e with
  | List l pos =>
    simp only [m_lst, Bool.and_eq_true, decide_eq_true_eq] at h
    refine (pe_lst (hs l h.1)).imp fun σ H Q ⟨ρ, μ, P, as, w, ro, f⟩ => ?_
    simp only [ev] at f
    refine ⟨ρ, μ, P, as, w, ro, ?_⟩
    have f' := Fin.bind f
    cases q0 : evL R γ es ρ μ with
    | ok xs μ1 =>
      rw [q0] at f'
      intro H1 as1 e1 w1 vs vos
      obtain ⟨_, _, f1⟩ := f' H1 as1 e1 w1
      obtain ⟨z, hz, q⟩ := Fin.of f1
      rw [Option.map_eq_some_iff] at hz
      obtain ⟨ds, hz, rfl⟩ := hz
      have t := datas_nil_data hz vos
      refine ⟨by rw [len_vls vos, len_evL h.1 q0, sizeLine_eq]; omega, fun p hp => ?_⟩
      exact q _ _ (Ex.laid hp) (w1.laid hp) _ ((frOk w1 hp t).back e1.dom)
    | exc cc μ1 => rw [q0] at f'; exact f'
    | bad => rw [q0] at f'; exact f'
  | _ => (first | exact absurd h Bool.false_ne_true | simp [m_lst] at h)
theorem e_idx {a i : E} {e : Expr} (ha : ∀ l, mat c a l = true → PE X l (rE X W γ R a)) (hi : ∀ l, mat c i l = true → PE X l (rE X W γ R i)) (h : mat c (.idx a i) e = true) : PE X e (rE X W γ R (.idx a i)) := by
  cases e with
  | Subscript l r pos =>
    simp only [m_idx, Bool.and_eq_true] at h
    refine (pe_ix idx_ok (ha l h.1) (hi r h.2) (plainIx_of h.2)).imp fun σ H Q ⟨ρ, μ, P, as, w, ro, f⟩ => ?_
    simp only [ev] at f
    refine ⟨ρ, μ, P, as, w, ro, (Fin.bind f).mono fun x μ1 H1 as1 e1 ⟨_, w1, f1⟩ v vo => ?_⟩
    refine ⟨ρ, μ1, P, as1, w1, ro.ex e1, (Fin.bind f1).mono fun y μ2 H2 as2 e2 ⟨_, w2, f2⟩ v2 vo2 => ?_⟩
    refine ⟨P, as2, μ2, w2, ?_⟩
    have gen : ∀ d d2, drf μ2 x = some d → drf μ2 y = some d2 → Fin X.mg W P σ H2 as2 μ2 (Rs.of ((idxF d d2).map Vl.dt) μ2) (fun x μ' H' as' => ∀ v, VlOk P H' as' μ' X.K H v x → Q v H') →
        ∃ a b d, Dv P H2 as2 μ2 v a ∧ Dv P H2 as2 μ2 v2 b ∧ idxF a b = some d ∧ Ans X.K P H2 as2 μ2 (.dt d) Q := fun d d2 q1 q2 f3 => by
      obtain ⟨z, hz, q⟩ := Fin.of f3
      rw [Option.map_eq_some_iff] at hz
      obtain ⟨z, hz, rfl⟩ := hz
      exact ⟨d, d2, z, (vo.ex e2).dv w2 q1, vo2.dv w2 q2, hz, Ans.of (e1.trans e2).dom q⟩
    split at f2
    · rename_i ns j _ _
      obtain ⟨z, hz, q⟩ := Fin.of f2
      rw [Option.map_eq_some_iff] at hz
      obtain ⟨kk, hz, rfl⟩ := hz
      cases (show Dm _ H2 v2 (.int j) from vo2)
      exact .inr ⟨ns, j, kk, vo.ex e2, rfl, hz, q H2 as2 Ex.refl w2 _ (Dm.int _)⟩
    · split at f2
      · rename_i d d2 q1 q2
        exact .inl (gen d d2 q1 q2 f2)
      · exact f2.elim
  | _ => (first | exact absurd h Bool.false_ne_true | simp [m_idx] at h)
omit co in
theorem hd_at {as : List Addr} {ns : List Nat} {ps : List Addr} (h : (ns.map fun n => as[n]?) = ps.map some) {j : Int} {m : Nat} (hm : atI ns j = some m) : ∃ q, atI (ps.map V.ref) j = some (.ref q) ∧ as[m]? = some q := by
  have hl : ns.length = ps.length := by
    have := congrArg List.length h
    simpa using this
  unfold atI at hm ⊢
  rw [List.length_map, ← hl]
  cases e : ixN ns.length j with
  | none => rw [e] at hm; cases hm
  | some k =>
    rw [e] at hm
    have hm : ns[k]? = some m := hm
    have g := congrArg (·[k]?) h
    simp only [List.getElem?_map, hm, Option.map_some] at g
    cases q : ps[k]? with
    | none => rw [q] at g; cases g
    | some a =>
      rw [q] at g
      refine ⟨a, ?_, Option.some.inj g⟩
      show (ps.map V.ref)[k]? = some (.ref a)
      rw [List.getElem?_map, q]
      rfl
theorem e_idh {i : Nat} {a : E} {e : Expr} (ha : ∀ l, mat c a l = true → PE X l (rE X W γ R a)) (h : mat c (.idh i a) e = true) : PE X e (rE X W γ R (.idh i a)) := by
  have hh : ∃ x p r pos, e = .Subscript (.Name x p) r pos ∧ visB c i x = true ∧ mat c a r = true := by
    simp only [m_idh] at h
    split at h
    · simp only [Bool.and_eq_true] at h
      exact ⟨_, _, _, _, rfl, h.1, h.2⟩
    · cases h
  obtain ⟨x, p, r, pos, rfl, h1, h2⟩ := hh
  obtain ⟨g1, g2, g3, g4⟩ := co.vis h1
  refine (pe_ix ix_list (pe_var g1 g2 g3 g4) (ha r h2) (plainIx_of h2)).imp fun σ H Q ⟨ρ, μ, P, as, w, ro, f⟩ => ?_
  simp only [ev] at f
  split at f
  · rename_i n q0
    obtain ⟨v, hv, p', hp', rfl⟩ := ro.2.1 i _ q0
    refine ⟨_, hv, ρ, μ, P, as, w, ro, (Fin.bind f).mono fun y μ1 H1 as1 e1 ⟨_, w1, f1⟩ v2 vo2 => ?_⟩
    cases y with
    | dt d =>
      cases d with
      | int j =>
        cases (show Dm _ H1 v2 (.int j) from vo2)
        simp only at f1
        split at f1
        · rename_i ns hns
          obtain ⟨z, hz, q⟩ := Fin.of f1
          rw [Option.map_eq_some_iff] at hz
          obtain ⟨m, hm, rfl⟩ := hz
          obtain ⟨p2, b1, _, ps, b3, b4⟩ := w1.obj n _ hns
          rw [pre_get e1.pre hp'] at b1
          cases b1
          obtain ⟨q1, c1, c2⟩ := hd_at b4.1 hm
          exact ⟨p', _, j, _, rfl, rfl, .of b3, c1, q H1 as1 Ex.refl w1 _ ⟨q1, c2, rfl⟩⟩
        · exact f1.elim
      | _ => exact f1.elim
    | _ => exact f1.elim
  · exact f.elim
theorem p_nil {o : Option Expr} (h : matO c .nil o = true) : PO X o (rP X W γ R .nil) := by
  cases o with
  | none => exact po_none.imp fun σ H Q ⟨ρ, μ, P, as, w, ro, f⟩ => f H as Ex.refl w
  | some e => (first | exact absurd h Bool.false_ne_true | simp [mO_nil, mO_cons] at h)
theorem p_cons {a r : E} {o : Option Expr} (ha : ∀ l, mat c a l = true → PE X l (rE X W γ R a)) (h : matO c (.cons a r) o = true) : PO X o (rP X W γ R (.cons a r)) := by
  cases o with
  | none => (first | exact absurd h Bool.false_ne_true | simp [mO_nil, mO_cons] at h)
  | some e =>
    simp only [mO_nil, mO_cons, Bool.and_eq_true] at h
    refine (po_some (ha e h.1)).imp fun σ H Q ⟨ρ, μ, P, as, w, ro, f⟩ => ?_
    simp only [evP] at f
    refine ⟨ρ, μ, P, as, w, ro, (Fin.bind f).mono fun x μ1 H1 as1 e1 ⟨_, w1, f1⟩ v vo => ?_⟩
    cases x with
    | dt d =>
      cases d with
      | int i =>
        cases (show Dm _ H1 v (.int i) from vo)
        exact ⟨i, rfl, f1 H1 as1 Ex.refl w1⟩
      | _ => exact f1.elim
    | _ => exact f1.elim
theorem e_slc {a lo hi : E} {e : Expr} (ha : ∀ l, mat c a l = true → PE X l (rE X W γ R a)) (hl : ∀ o, matO c lo o = true → PO X o (rP X W γ R lo)) (hh : ∀ o, matO c hi o = true → PO X o (rP X W γ R hi)) (h : mat c (.slc a lo hi) e = true) : PE X e (rE X W γ R (.slc a lo hi)) := by
  cases e with
  | Subscript l r pos =>
    cases r with
    | Slice u v st p2 =>
      cases st with
      | some _ => (first | exact absurd h Bool.false_ne_true | simp [m_slc] at h)
      | none =>
        simp only [m_slc, Bool.and_eq_true] at h
        refine (pe_slice slc_ok (ha l h.1.1) (hl u h.1.2) (hh v h.2)).imp fun σ H Q ⟨ρ, μ, P, as, w, ro, f⟩ => ?_
        simp only [ev] at f
        refine ⟨ρ, μ, P, as, w, ro, (Fin.bind f).mono fun x μ1 H1 as1 e1 ⟨_, w1, f1⟩ vv vo => ?_⟩
        refine ⟨ρ, μ1, P, as1, w1, ro.ex e1, (Fin.bind f1).mono fun y μ2 H2 as2 e2 ⟨_, w2, f2⟩ => ?_⟩
        refine ⟨ρ, μ2, P, as2, w2, (ro.ex e1).ex e2, (Fin.bind f2).mono fun z μ3 H3 as3 e3 ⟨_, w3, f3⟩ => ?_⟩
        split at f3
        · rename_i d q1
          obtain ⟨zz, hz, q⟩ := Fin.of f3
          exact ⟨P, as3, μ3, d, zz, w3, ((vo.ex e2).ex e3).dv w3 q1, hz, Ans.of ((e1.trans e2).trans e3).dom q⟩
        · exact f3.elim
    | _ => (first | exact absurd h Bool.false_ne_true | simp [m_slc] at h)
  | _ => (first | exact absurd h Bool.false_ne_true | simp [m_slc] at h)
theorem e_rvs {a lo hi : E} {e : Expr} (ha : ∀ l, mat c a l = true → PE X l (rE X W γ R a)) (hl : ∀ o, matO c lo o = true → PO X o (rP X W γ R lo)) (hh : ∀ o, matO c hi o = true → PO X o (rP X W γ R hi)) (h : mat c (.rvs a lo hi) e = true) : PE X e (rE X W γ R (.rvs a lo hi)) := by
  have hs : ∃ l u v kk p1 p2 p3 pos, e = .Subscript l (.Slice u v (some (.UnaryOp .USub (.Constant (.int 1) kk p1) p2)) p3) pos ∧ (mat c a l = true ∧ matO c lo u = true) ∧ matO c hi v = true := by
    simp only [m_rvs] at h
    split at h
    · simp only [Bool.and_eq_true] at h
      exact ⟨_, _, _, _, _, _, _, _, rfl, h⟩
    · cases h
  obtain ⟨l, u, v, kk, p1, p2, p3, pos, rfl, ⟨g1, g2⟩, g3⟩ := hs
  refine (rvs_ok (ha l g1) (hl u g2) (hh v g3)).imp fun σ H Q ⟨ρ, μ, P, as, w, ro, f⟩ => ?_
  simp only [ev] at f
  refine ⟨ρ, μ, P, as, w, ro, (Fin.bind f).mono fun x μ1 H1 as1 e1 ⟨_, w1, f1⟩ vv vo => ?_⟩
  refine ⟨ρ, μ1, P, as1, w1, ro.ex e1, (Fin.bind f1).mono fun y μ2 H2 as2 e2 ⟨_, w2, f2⟩ => ?_⟩
  refine ⟨ρ, μ2, P, as2, w2, (ro.ex e1).ex e2, (Fin.bind f2).mono fun z μ3 H3 as3 e3 ⟨_, w3, f3⟩ => ?_⟩
  split at f3
  · rename_i d q1
    obtain ⟨zz, hz, q⟩ := Fin.of f3
    exact ⟨P, as3, μ3, d, zz, w3, ((vo.ex e2).ex e3).dv w3 q1, hz, Ans.of ((e1.trans e2).trans e3).dom q⟩
  · exact f3.elim
theorem e_rev {a : E} {e : Expr} (ha : ∀ l, mat c a l = true → PE X l (rE X W γ R a)) (h : mat c (.rev a) e = true) : PE X e (rE X W γ R (.rev a)) := by
  have hs : ∃ l kk p1 p2 p3 pos, e = .Subscript l (.Slice none none (some (.UnaryOp .USub (.Constant (.int 1) kk p1) p2)) p3) pos ∧ mat c a l = true := by
    simp only [m_rev] at h
    split at h
    · exact ⟨_, _, _, _, _, _, rfl, h⟩
    · cases h
  obtain ⟨l, kk, p1, p2, p3, pos, rfl, h⟩ := hs
  refine (rev_ok (ha l h)).imp fun σ H Q ⟨ρ, μ, P, as, w, ro, f⟩ => ?_
  simp only [ev] at f
  refine ⟨ρ, μ, P, as, w, ro, (Fin.bind f).mono fun x μ1 H1 as1 e1 ⟨_, w1, f1⟩ v vo => ?_⟩
  split at f1
  · rename_i d q1
    obtain ⟨z, hz, q⟩ := Fin.of f1
    exact ⟨P, as1, μ1, d, z, w1, vo.dv w1 q1, hz, Ans.of e1.dom q⟩
  · exact f1.elim
theorem e_len {a : E} {e : Expr} (ha : ∀ l, mat c a l = true → PE X l (rE X W γ R a)) (h : mat c (.len a) e = true) : PE X e (rE X W γ R (.len a)) := by
  have hs : ∃ x p pos, e = .Call (.Name "len" p) [x] [] pos ∧ glB c "len" = true ∧ mat c a x = true := by
    simp only [m_len] at h
    split at h
    · simp only [Bool.and_eq_true, decide_eq_true_eq] at h
      obtain ⟨⟨rfl, h1⟩, h2⟩ := h
      exact ⟨_, _, _, rfl, h1, h2⟩
    · cases h
  obtain ⟨x, p, pos, rfl, h1, h2⟩ := hs
  refine (pe_callB len_ok (co.gl h1).1 (co.blt _ (by decide)) PySem.boot_len (pa_cons (ha x h2) pa_nil (star_of h2 [] X.env)) (by decide) (co.gl h1).2 (star_of h2 [] X.env)).imp fun σ H Q ⟨ρ, μ, P, as, w, ro, f⟩ => ?_
  simp only [ev] at f
  refine ⟨ρ, μ, P, as, w, ro, (Fin.bind f).mono fun x μ1 H1 as1 e1 ⟨_, w1, f1⟩ v vo => ?_⟩
  refine ⟨P, as1, μ1, v, rfl, w1, ?_⟩
  split at f1
  · rename_i ns _
    exact .inr ⟨ns, vo, f1 H1 as1 Ex.refl w1 _ (Dm.int _)⟩
  · split at f1
    · rename_i d q1
      obtain ⟨z, hz, q⟩ := Fin.of f1
      rw [Option.map_eq_some_iff] at hz
      obtain ⟨n, hz, rfl⟩ := hz
      exact .inl ⟨d, n, vo.dv w1 q1, hz, q H1 as1 Ex.refl w1 _ (Dm.int _)⟩
    · exact f1.elim
theorem slAll {P : Addr → Prop} {H H0 : Hp} {as : List Addr} {μ : Mu} : ∀ {vs : List V} {xs : List Vl}, VlsOk P H as μ X.K H0 vs xs → Paired (SlOk X.K P H as μ) vs (xs.map Vl.fz)
  | _, _, .nil => .nil
  | _, _, .cons h t => .cons h.fz (slAll t)
theorem e_call {f : Str} {es : E} {e : Expr} (hs : ∀ l, matL c es l = true → PA X l (rL X W γ R es)) (h : mat c (.call f es) e = true) : PE X e (rE X W γ R (.call f es)) := by
  have hh : ∃ x r p pos, e = .Call (.Name f p) (x :: r) [] pos ∧ glB c f = true ∧ matL c es (x :: r) = true := by
    simp only [m_call] at h
    split at h
    · simp only [Bool.and_eq_true, decide_eq_true_eq] at h
      obtain ⟨⟨rfl, h1⟩, h2⟩ := h
      exact ⟨_, _, _, _, rfl, h1, h2⟩
    · cases h
  obtain ⟨x, r, p, pos, rfl, h1, h2⟩ := hh
  have h3 : ∃ a b, es = .cons a b ∧ mat c a x = true ∧ matL c b r = true := by
    cases es with
    | cons a b =>
      simp only [mL_nil, mL_cons, Bool.and_eq_true] at h2
      exact ⟨a, b, rfl, h2.1, h2.2⟩
    | _ => (first | exact absurd h2 Bool.false_ne_true | simp [mL_nil, mL_cons] at h2)
  obtain ⟨a, b, rfl, m1, m2⟩ := h3
  cases hR : R f with
  | none =>
    refine ⟨fun pins s σ H Q I ⟨ρ, μ, P, as, w, ro, q⟩ => ?_⟩
    simp only [ev, hR] at q
    exact q.elim
  | some g =>
    obtain ⟨ad, fd, ps, g1, g2, g3, g4, F⟩ := co.fns f g hR
    refine (pe_callG F co.hr co.hg (co.gl h1).1 g1 g2 g3 (fun σ => L2N.passAt co.tk σ) (hs _ h2) (co.gl h1).2 (star_of m1 r X.env) (noStar_of m2 X.env pos)).imp fun σ H Q ⟨ρ, μ, P, as, w, ro, q⟩ => ?_
    simp only [ev, hR] at q
    refine ⟨ρ, μ, P, as, w, ro, (Fin.bind q).mono fun xs μ1 H1 as1 e1 ⟨_, w1, f1⟩ vs vos => ?_⟩
    have hb : g (xs.map Vl.fz) μ1 ≠ .bad := fun z => by rw [z] at f1; exact f1
    have hl := g4 _ _ hb
    rw [List.length_map] at hl
    refine ⟨by rw [len_vls vos]; exact hl, (ro.ex e1).2.2, P, as1, xs.map Vl.fz, μ1, w1, slAll co vos, ?_⟩
    cases hg : g (xs.map Vl.fz) μ1 with
    | ok y μ2 =>
      rw [hg] at f1
      exact fun H2 as2 e2 w2 v vo => f1 H2 as2 e2 w2 v (vo.back e1.dom)
    | exc cc μ2 =>
      rw [hg] at f1
      exact fun H2 as2 C e2 w2 gg => f1 H2 as2 C e2 w2 gg
    | bad => exact absurd hg hb
end
end TL
/-! T9c: three comparisons, sorted(set(..)) -/
namespace TL
open PySem PySem.Spec L2
set_option autoImplicit false
/-! ### three comparisons in a row -/
def tCh3 (r r' r'' : R2) (ta tb tc td : TE) : TE := fun σ H Q => ta σ H fun x H1 => tb σ H1 fun y H2 => r x y H2 fun z H3 => ∃ k, z = .bl k ∧
  if k = true then tc σ H3 fun y2 H4 => r' y y2 H4 fun z2 H5 => ∃ k2, z2 = .bl k2 ∧ if k2 = true then td σ H5 fun y3 H6 => r'' y2 y3 H6 Q else Q (.bl false) H5
  else Q (.bl false) H3
section
variable {X : Cx} {a b c d : Expr} {ta tb tc td : TE} {op op' op'' : CmpOp} {r r' r'' : R2} {pos : Pos}
theorem pe_ch3 (ho : OpR X (compareOp op) r) (ho' : OpR X (compareOp op') r') (ho'' : OpR X (compareOp op'') r'') (ha : PE X a ta) (hb : PE X b tb) (hc : PE X c tc) (hd : PE X d td)
    (hm : lastMarks [op, op', op''] [b, c, d] = false) : PE X (.Compare a [op, op', op''] [b, c, d] pos) (tCh3 r r' r'' ta tb tc td) := by
  refine ⟨fun pins s σ H Q I h => ?_⟩
  refine PyProof.Rows.Compare_chain (thn (ha.run pins s σ H _ I h) fun v s1 ⟨x, H1, I1, r1, q1⟩ => PyProof.Rows.chain_link (thn (hb.run pins s1 σ H1 _ I1 q1) fun u s2 ⟨y, H2, I2, r2, q2⟩ =>
    thn (ho pins s2 σ H2 x y v u _ I2 r1 r2 q2) fun d0 s3 ⟨z, H3, I3, r3, k, e, q3⟩ => ?_)) hm
  subst e
  cases r3
  refine wpAny_truthy_bool ?_
  cases k with
  | false => exact PyProof.Rows.ite_ff ⟨.bl false, H3, I3, rfl, q3⟩
  | true =>
    refine PyProof.Rows.ite_tt (PyProof.Rows.chain_link (thn (hc.run pins s3 σ H3 _ I3 q3) fun u2 s4 ⟨y2, H4, I4, r4, q4⟩ => thn (ho' pins s4 σ H4 y y2 u u2 _ I4 r2 r4 q4) fun d1 s5 ⟨z2, H5, I5, r5, k2, e2, q5⟩ => ?_))
    subst e2
    cases r5
    refine wpAny_truthy_bool ?_
    cases k2 with
    | false => exact PyProof.Rows.ite_ff ⟨.bl false, H5, I5, rfl, q5⟩
    | true => exact PyProof.Rows.ite_tt (PyProof.Rows.chain_last (thn (hd.run pins s5 σ H5 _ I5 q5) fun u3 s6 ⟨y3, H6, I6, r6, q6⟩ => ho'' pins s6 σ H6 y2 y3 u2 u3 Q I6 r4 r6 q6))
theorem pt_ch3 (ho : OpR X (compareOp op) r) (ho' : OpR X (compareOp op') r') (ho'' : OpR X (compareOp op'') r'') (ha : PE X a ta) (hb : PE X b tb) (hc : PE X c tc) (hd : PE X d td)
    (hm : lastMarks [op, op', op''] [b, c, d] = false) : PT X (.Compare a [op, op', op''] [b, c, d] pos) (tTest (tCh3 r r' r'' ta tb tc td)) := by
  refine ⟨fun pins s σ H Q I h => ?_⟩
  refine PyProof.Rows.isTrue_chain (thn (ha.run pins s σ H _ I h) fun v s1 ⟨x, H1, I1, r1, q1⟩ => PyProof.Rows.test_link (thn (hb.run pins s1 σ H1 _ I1 q1) fun u s2 ⟨y, H2, I2, r2, q2⟩ =>
    thn (ho pins s2 σ H2 x y v u _ I2 r1 r2 q2) fun d0 s3 ⟨z, H3, I3, r3, k, e, q3⟩ => ?_)) hm
  subst e
  cases r3
  refine wpAny_truthy_bool ?_
  cases k with
  | false =>
    obtain ⟨k', e', q'⟩ := q3
    cases e'
    exact PyProof.Rows.ite_ff ⟨H3, I3, q'⟩
  | true =>
    refine PyProof.Rows.ite_tt (PyProof.Rows.test_link (thn (hc.run pins s3 σ H3 _ I3 q3) fun u2 s4 ⟨y2, H4, I4, r4, q4⟩ => thn (ho' pins s4 σ H4 y y2 u u2 _ I4 r2 r4 q4) fun d1 s5 ⟨z2, H5, I5, r5, k2, e2, q5⟩ => ?_))
    subst e2
    cases r5
    refine wpAny_truthy_bool ?_
    cases k2 with
    | false =>
      obtain ⟨k', e', q'⟩ := q5
      cases e'
      exact PyProof.Rows.ite_ff ⟨H5, I5, q'⟩
    | true =>
      refine PyProof.Rows.ite_tt (PyProof.Rows.test_last (thn (hd.run pins s5 σ H5 _ I5 q5) fun u3 s6 ⟨y3, H6, I6, r6, q6⟩ => thn (ho'' pins s6 σ H6 y2 y3 u2 u3 _ I6 r4 r6 q6) fun d2 s7 ⟨z3, H7, I7, r7, k3, e3, q7⟩ => ?_))
      subst e3
      cases r7
      exact wpAny_truthy_bool ⟨H7, I7, q7⟩
end
section
variable {X : Cx} {c : MC} {W : WX} {γ : Str → Option D} {R : Str → Option (List Vl → Mu → Rs Vl)} {k : Nat} (co : Co X c W γ R k)
include co
theorem e_ch3 {o1 o2 o3 : CmpOp} {a b d d2 : E} {e : Expr} (ha : ∀ l, mat c a l = true → PE X l (rE X W γ R a)) (hb : ∀ l, mat c b l = true → PE X l (rE X W γ R b)) (hd : ∀ l, mat c d l = true → PE X l (rE X W γ R d)) (hd2 : ∀ l, mat c d2 l = true → PE X l (rE X W γ R d2))
    (h : mat c (.chn3 o1 o2 o3 a b d d2) e = true) : PE X e (rE X W γ R (.chn3 o1 o2 o3 a b d d2)) ∧ PT X e (rB X W γ R (.chn3 o1 o2 o3 a b d d2)) := by
  have hs : ∃ l r t u pos, e = .Compare l [o1, o2, o3] [r, t, u] pos ∧ mat c a l = true ∧ mat c b r = true ∧ mat c d t = true ∧ mat c d2 u = true := by
    simp only [m_chn3] at h
    split at h
    · simp only [Bool.and_eq_true, decide_eq_true_eq] at h
      obtain ⟨⟨⟨⟨⟨⟨rfl, rfl⟩, rfl⟩, h1⟩, h2⟩, h3⟩, h4⟩ := h
      exact ⟨_, _, _, _, _, rfl, h1, h2, h3, h4⟩
    · cases h
  obtain ⟨l, r, t, u, pos, rfl, h1, h2, h3, h4⟩ := hs
  have hm : lastMarks [o1, o2, o3] [r, t, u] = false := noMark_of h4 o3
  have hu : X.A.units + 65 < cLine := by have := co.hu; omega
  have main : ∀ σ H (Q : VK), rE X W γ R (.chn3 o1 o2 o3 a b d d2) σ H Q → tCh3 (rD2 X.K (cmpV o1)) (rD2 X.K (cmpV o2)) (rD2 X.K (cmpV o3)) (rE X W γ R a) (rE X W γ R b) (rE X W γ R d) (rE X W γ R d2) σ H Q := by
    rintro σ H Q ⟨ρ, μ, P, as, w, ro, f⟩
    simp only [ev] at f
    refine ⟨ρ, μ, P, as, w, ro, (Fin.bind f).mono fun x μ1 H1 as1 e1 z1 v vo => ?_⟩
    obtain ⟨g1, w1, f1⟩ := z1
    refine ⟨ρ, μ1, P, as1, w1, ro.ex e1, (Fin.bind f1).mono fun y μ2 H2 as2 e2 z2 v2 vo2 => ?_⟩
    obtain ⟨g2, w2, f2⟩ := z2
    split at f2
    · rename_i i j
      obtain ⟨kk, hk, q⟩ := Fin.of (Fin.bind f2)
      have vj : Dm _ H2 v2 (.int j) := vo2
      cases vj
      refine ⟨P, as2, μ2, .int i, .int j, .dt (.bool kk), w2, .inl ((show Dm _ H1 v (.int i) from vo).ex e2), .inl (.int j), by unfold cmpV; rw [hk]; rfl, fun v3 H3 e3 w3 vo3 => ?_⟩
      cases (show Dm _ H3 v3 (.bool kk) from vo3)
      refine ⟨kk, rfl, ?_⟩
      obtain ⟨_, _, f3⟩ := q H3 as2 e3 w3
      cases kk with
      | false =>
        rw [if_neg Bool.false_ne_true] at f3 ⊢
        exact f3 H3 as2 Ex.refl w3 _ (Dm.bl _)
      | true =>
        rw [if_pos rfl] at f3 ⊢
        refine ⟨ρ, μ2, P, as2, w3, (ro.ex e1).ex (e2.trans e3), (Fin.bind f3).mono fun z μ4 H4 as4 e4 z4 v4 vo4 => ?_⟩
        obtain ⟨g4, w4, f4⟩ := z4
        split at f4
        · rename_i l2
          obtain ⟨k2, hk2, q2⟩ := Fin.of (Fin.bind f4)
          have vl : Dm _ H4 v4 (.int l2) := vo4
          cases vl
          refine ⟨P, as4, μ4, .int j, .int l2, .dt (.bool k2), w4, .inl (.int j), .inl (.int l2), by unfold cmpV; rw [hk2]; rfl, fun v5 H5 e5 w5 vo5 => ?_⟩
          cases (show Dm _ H5 v5 (.bool k2) from vo5)
          refine ⟨k2, rfl, ?_⟩
          obtain ⟨_, _, f5⟩ := q2 H5 as4 e5 w5
          cases k2 with
          | false =>
            rw [if_neg Bool.false_ne_true] at f5 ⊢
            exact f5 H5 as4 Ex.refl w5 _ (Dm.bl _)
          | true =>
            rw [if_pos rfl] at f5 ⊢
            refine ⟨ρ, μ4, P, as4, w5, (((ro.ex e1).ex (e2.trans e3)).ex e4).ex e5, (Fin.bind f5).mono fun z2 μ6 H6 as6 e6 z6 v6 vo6 => ?_⟩
            obtain ⟨g6, w6, f6⟩ := z6
            split at f6
            · rename_i m2
              obtain ⟨zz, hz, qq⟩ := Fin.of f6
              have vm : Dm _ H6 v6 (.int m2) := vo6
              cases vm
              exact ⟨P, as6, μ6, .int l2, .int m2, zz, w6, .inl (.int l2), .inl (.int m2), hz, Ans.of (((((e1.trans e2).trans e3).trans e4).trans e5).trans e6).dom qq⟩
            · exact f6.elim
        · exact f4.elim
    · exact f2.elim
  refine ⟨(pe_ch3 (cmp_ok hu o1) (cmp_ok hu o2) (cmp_ok hu o3) (ha l h1) (hb r h2) (hd t h3) (hd2 u h4) hm).imp main, (pt_ch3 (cmp_ok hu o1) (cmp_ok hu o2) (cmp_ok hu o3) (ha l h1) (hb r h2) (hd t h3) (hd2 u h4) hm).imp fun σ H Q ⟨ρ, μ, P, as, w, ro, f⟩ => ?_⟩
  refine main σ H _ ⟨ρ, μ, P, as, w, ro, ?_⟩
  have isB : ∀ x μ', ev R γ (.chn3 o1 o2 o3 a b d d2) ρ μ = .ok x μ' → ∃ bb, x = .dt (.bool bb) := fun x μ' q => by
    simp only [ev] at q
    cases q1 : ev R γ a ρ μ with
    | ok y1 m1 =>
      rw [q1] at q
      simp only [Rs.bind] at q
      cases q2 : ev R γ b ρ m1 with
      | ok y2 m2 =>
        rw [q2] at q
        simp only at q
        split at q
        · rename_i i j
          cases q3 : cmpF o1 (.int i) (.int j) with
          | none => rw [q3] at q; cases q
          | some kk =>
            rw [q3] at q
            simp only [Rs.of] at q
            cases kk with
            | false => cases q; exact ⟨_, rfl⟩
            | true =>
              rw [if_pos rfl] at q
              cases q4 : ev R γ d ρ m2 with
              | ok y3 m3 =>
                rw [q4] at q
                simp only at q
                split at q
                · rename_i l2
                  cases q5 : cmpF o2 (.int j) (.int l2) with
                  | none => rw [q5] at q; cases q
                  | some kk =>
                    rw [q5] at q
                    simp only at q
                    cases kk with
                    | false => cases q; exact ⟨_, rfl⟩
                    | true =>
                      rw [if_pos rfl] at q
                      cases q6 : ev R γ d2 ρ m3 with
                      | ok y4 m4 =>
                        rw [q6] at q
                        simp only at q
                        split at q
                        · rename_i m2
                          cases q7 : cmpF o3 (.int l2) (.int m2) with
                          | none => rw [q7] at q; cases q
                          | some kk => rw [q7] at q; cases q; exact ⟨_, rfl⟩
                        · cases q
                      | exc _ _ => rw [q6] at q; cases q
                      | bad => rw [q6] at q; cases q
                · cases q
              | exc _ _ => rw [q4] at q; cases q
              | bad => rw [q4] at q; cases q
        · cases q
      | exc _ _ => rw [q2] at q; cases q
      | bad => rw [q2] at q; cases q
    | exc _ _ => rw [q1] at q; cases q
    | bad => rw [q1] at q; cases q
  unfold evB at f
  rw [show (E.chn3 o1 o2 o3 a b d d2).isIfe = false from rfl, if_neg Bool.false_ne_true] at f
  cases q : ev R γ (.chn3 o1 o2 o3 a b d d2) ρ μ with
  | ok x μ' =>
    obtain ⟨bb, rfl⟩ := isB x μ' q
    rw [q] at f
    intro H' as' e' w' v vo
    cases (show Dm _ H' v (.bool bb) from vo)
    exact ⟨bb, rfl, f H' as' e' w'⟩
  | exc _ _ => rw [q] at f; exact f
  | bad => rw [q] at f; exact f
end
/-! ### sorted(set(x)), x a tuple of pairs -/
theorem nubF_nd {α : Type} [DecidableEq α] (l : List α) : (nubF l).Nodup := by
  have go : ∀ (l acc : List α), acc.Nodup → (l.foldl (fun acc k => if k ∈ acc then acc else acc ++ [k]) acc).Nodup := by
    intro l
    induction l with
    | nil => exact fun acc h => h
    | cons a l ih =>
      intro acc h
      rw [List.foldl_cons]
      refine ih _ ?_
      split
      · exact h
      · rename_i q
        rw [List.nodup_append]
        refine ⟨h, by simp, fun x hx y hy => ?_⟩
        simp only [List.mem_cons, List.not_mem_nil, or_false] at hy
        subst hy
        exact fun z => q (z ▸ hx)
  exact go l [] List.nodup_nil
/-- the pairs of a tuple's row, each at its address -/
theorem prs_rows {M : Addr → Prop} {H : Hp} : ∀ {ds : List D} {vs : List V} {ps : List (Int × Int)}, prsOf ds = some ps → DmAll M H vs ds →
    ∃ ks : List (Addr × List Int), vs = ks.map (fun p => V.ref p.1) ∧ ks.map (·.2) = ps.map (fun p => [p.1, p.2]) ∧ ∀ p ∈ ks, ∃ pr : Int × Int, pr ∈ ps ∧ p.2 = [pr.1, pr.2] ∧ H p.1 = some (.tup (p.2.map V.int)) ∧ Dm M H (.ref p.1) (prD pr)
  | [], _, ps, e, .nil => by
    cases e
    exact ⟨[], rfl, rfl, fun p h => by cases h⟩
  | d :: ds, _, ps, e, .cons (v := v) hd t => by
    unfold prsOf at e
    split at e
    · rename_i e0
      cases e0
    · rename_i i j r e0
      cases e0
      rw [Option.map_eq_some_iff] at e
      obtain ⟨qs, e1, rfl⟩ := e
      obtain ⟨ks, rfl, h2, h3⟩ := prs_rows e1 t
      cases hd with
      | tup ha hn ht =>
        rename_i a xs
        have ex : xs = [V.int i, V.int j] := by
          have := DmAll.ints (ns := [i, j]) ht
          simpa using this
        subst ex
        refine ⟨(a, [i, j]) :: ks, rfl, by rw [List.map_cons, h2]; rfl, fun p hp => ?_⟩
        rcases List.mem_cons.mp hp with rfl | hp
        · exact ⟨(i, j), List.mem_cons_self, rfl, ha, .tup ha hn ht⟩
        · obtain ⟨pr, g1, g2⟩ := h3 p hp
          exact ⟨pr, List.mem_cons_of_mem _ g1, g2⟩
    · cases e
section
variable {X : Cx}
theorem pe_sset {a : Expr} {ta : TE} {p p2 q pos : Pos} (hc : X.calm = true) (hg : Gl X "sorted") (hm : X.mg "sorted" = none) (hg2 : Gl X "set") (hm2 : X.mg "set" = none) (hu : X.A.units + 64 < cLine) (ha : PE X a ta)
    (na : starEach [a] X.env = (false, eval a X.env) :: starEach [] X.env) : PE X (.Call (.Name "sorted" p) [.Call (.Name "set" p2) [a] [] q] [] pos) (fun σ H Q => ta σ H fun x H1 => ∃ (l : Addr) (ks : List (Addr × List Int)), x = .ref l ∧ SqT X.K H1 l (ks.map fun p => V.ref p.1) ∧ (∀ p ∈ ks, H1 p.1 = some (.tup (p.2.map V.int))) ∧ ks.length < 64 ∧
      (∀ p ∈ ks, p.2.length = 2 ∧ TS.Bd 64 p.2) ∧ ∀ (b : Addr) (o : HO) (e : Addr) (L : List (Addr × List Int)), H1 b = none → b ≠ e → H1 e = none → (∀ p ∈ L, p ∈ ks) → (∀ p ∈ ks, p.2 ∈ L.map (·.2)) → (L.map (·.2)).Nodup → L.Pairwise (fun q r => TS.code 64 q.2 ≤ TS.code 64 r.2) →
        Q (.ref e) (upd (upd H1 b o) e (.lst (L.map fun q => V.ref q.1)))) := by
  refine ⟨fun pins s σ H Q I h => ?_⟩
  refine PyProof.Rows.Call_ (ld_blt I hg hm (show bootBuiltins "sorted" = some (.builtin "sorted") by decide +kernel) ?_)
  refine PyProof.Rows.callWith_builtin1 (PyProof.Rows.args_cons ?_ rfl) rfl rfl
  refine PyProof.Rows.Call_ (ld_blt I hg2 hm2 PyProof.Rows.boot_set ?_)
  refine PyProof.Rows.callWith_type1 (PyProof.Rows.args_cons (thn (ha.run pins s σ H _ I h) fun v s1 ⟨x, H1, I1, r1, q1⟩ => PyProof.Rows.args_nil ?_) na) na rfl
  obtain ⟨l, ks, rfl, hq, hk, hl, hb, q1⟩ := q1
  cases r1
  obtain ⟨its, rv, pt, hz⟩ := I1.tuple hq
  have hn : H1 s1.heap.objs.size = none := I1.hok.fresh (Nat.le_refl _)
  refine call_set_tt (P := X.prog) (w := X.w) ks (I1.ok.hd hc) (show s1.heap.IsTuple l its.toArray from pt) (by simpa using refs_of_vals rv) (fun p hp => I1.isT (.of (hk p hp))) hl (by omega) fun h' tk L es ep t R g kk => ?_
  have I2 : Inv X pins σ (upd H1 s1.heap.objs.size (SetTO X.prog X.w s1.heap.objs.size L)) { s1 with heap := h', toks := tk } := I1.laid (t' := tk) kk (Nat.le_refl _) (setTO_new R.t0)
  refine PyProof.Rows.args_nil ?_
  have sub : ∀ p ∈ L, p ∈ ks := fun p hp => List.mem_of_mem_take (g.sub p hp)
  have ne : ∀ p ∈ ks, p.1 ≠ s1.heap.objs.size := fun p hp z => by
    have := hk p hp
    rw [z, hn] at this
    cases this
  refine cr_sortedT hc pins _ σ _ [.ref s1.heap.objs.size] _ Q I2 (.cons rfl .nil) ⟨s1.heap.objs.size, L, 2, 64, rfl, by rw [upd_same], fun p hp => .of ?_, by omega, fun p hp => hb p (sub p hp), fun L' e pm nd fw pw he => ?_⟩
  · rw [upd_ne (ne p (sub p hp))]
    exact hk p (sub p hp)
  · have hne : s1.heap.objs.size ≠ e := fun z => by
      rw [← z, upd_same] at he
      cases he
    rw [upd_ne (Ne.symm hne)] at he
    refine q1 _ _ e L' hn hne he (fun p hp => sub p (pm.mem_iff.mp hp)) (fun p hp => ?_) nd pw
    have := g.all p (by rw [List.take_length]; exact hp)
    obtain ⟨r, hr, er⟩ := List.mem_map.mp this
    exact List.mem_map.mpr ⟨r, pm.mem_iff.mpr hr, er⟩
end
section
variable {X : Cx} {c : MC} {W : WX} {γ : Str → Option D} {R : Str → Option (List Vl → Mu → Rs Vl)} {k : Nat} (co : Co X c W γ R k)
include co
theorem e_sset {a : E} {e : Expr} (ha : ∀ l, mat c a l = true → PE X l (rE X W γ R a)) (h : mat c (.sset a) e = true) : PE X e (rE X W γ R (.sset a)) := by
  have hh : ∃ x p p2 pos pos2, e = .Call (.Name "sorted" p) [.Call (.Name "set" p2) [x] [] pos2] [] pos ∧ glB c "sorted" = true ∧ glB c "set" = true ∧ mat c a x = true := by
    simp only [m_sset] at h
    split at h
    · simp only [Bool.and_eq_true, decide_eq_true_eq] at h
      obtain ⟨⟨⟨⟨rfl, h1⟩, rfl⟩, h2⟩, h3⟩ := h
      exact ⟨_, _, _, _, _, rfl, h1, h2, h3⟩
    · cases h
  obtain ⟨x, p, p2, pos, pos2, rfl, h1, h2, h3⟩ := hh
  have hu : X.A.units + 64 < cLine := by have := co.hu; omega
  refine (pe_sset co.calm (co.gl h1).1 (co.blt _ (by decide +kernel)) (co.gl h2).1 (co.blt _ (by decide +kernel)) hu (ha x h3) (star_of h3 [] X.env)).imp fun σ H Q ⟨ρ, μ, P, as, w, ro, f⟩ => ?_
  simp only [ev] at f
  refine ⟨ρ, μ, P, as, w, ro, (Fin.bind f).mono fun y μ1 H1 as1 e1 z1 v vo => ?_⟩
  obtain ⟨_, w1, f1⟩ := z1
  cases q1 : drf μ1 y with
  | none =>
    rw [q1] at f1
    exact f1.elim
  | some d =>
    rw [q1] at f1
    obtain ⟨z, hz, qq⟩ := Fin.of f1
    have dv := vo.dv w1 q1
    unfold stF at hz
    split at hz
    · rename_i ds
      split at hz
      · rename_i ps hp
        split at hz
        · rename_i hl
          cases hz
          obtain ⟨pp, vs, rfl, he, t⟩ := dv.tup
          obtain ⟨ks, rfl, k2, k3⟩ := prs_rows hp t
          have kl : ks.length = ps.length := by
            have := congrArg List.length k2
            simpa using this
          have inb : ∀ pr ∈ ps, 0 ≤ pr.1 ∧ pr.1 < 64 ∧ 0 ≤ pr.2 ∧ pr.2 < 64 := fun pr hpr => by
            have := List.all_eq_true.mp hl.2 pr hpr
            unfold inB at this
            simp only [Bool.and_eq_true, decide_eq_true_eq] at this
            omega
          refine ⟨pp, ks, rfl, .of he, fun p hp => (k3 p hp).choose_spec.2.2.1, by omega, fun p hp => ?_, fun b o e' L hb hne he' sub all nd pw => ?_⟩
          · obtain ⟨pr, g1, g2, _⟩ := k3 p hp
            rw [g2]
            refine ⟨rfl, fun i hi => ?_⟩
            have := inb pr g1
            simp only [List.mem_cons, List.not_mem_nil, or_false] at hi
            rcases hi with rfl | rfl <;> omega
          · -- the new list, as data
            obtain ⟨f2, hf2⟩ : ∃ f2 : Addr × List Int → Int × Int, ∀ p ∈ ks, f2 p ∈ ps ∧ p.2 = [(f2 p).1, (f2 p).2] ∧ Dm (Mf P as1 μ1) H1 (.ref p.1) (prD (f2 p)) := by
              refine ⟨fun p => (p.2.getD 0 0, p.2.getD 1 0), fun p hp => ?_⟩
              obtain ⟨pr, g1, g2, _, g4⟩ := k3 p hp
              show (p.2.getD 0 0, p.2.getD 1 0) ∈ ps ∧ p.2 = [p.2.getD 0 0, p.2.getD 1 0] ∧ Dm (Mf P as1 μ1) H1 (.ref p.1) (prD (p.2.getD 0 0, p.2.getD 1 0))
              rw [g2]
              exact ⟨g1, rfl, g4⟩
            have el : L.map (·.2) = (L.map f2).map fun p => [p.1, p.2] := by
              rw [List.map_map]
              exact List.map_congr_left fun p hp => (hf2 p (sub p hp)).2.1
            have nd2 : (L.map f2).Nodup := by
              rw [el] at nd
              exact List.Pairwise.of_map _ (fun _ _ hn ee => hn (by rw [ee])) nd
            have pm : (L.map f2).Perm (nubF ps) := by
              refine (List.perm_ext_iff_of_nodup nd2 (nubF_nd ps)).mpr fun pr => ?_
              rw [mem_nubF]
              constructor
              · intro hpr
                obtain ⟨p, hp, rfl⟩ := List.mem_map.mp hpr
                exact (hf2 p (sub p hp)).1
              · intro hpr
                have hm : [pr.1, pr.2] ∈ ks.map (·.2) := by rw [k2]; exact List.mem_map.mpr ⟨pr, hpr, rfl⟩
                obtain ⟨p, hp, ep⟩ := List.mem_map.mp hm
                have := all p hp
                rw [ep, el] at this
                obtain ⟨r, hr, er⟩ := List.mem_map.mp this
                have : r = pr := by
                  have e1 := List.head_eq_of_cons_eq er
                  have e2 := List.head_eq_of_cons_eq (List.tail_eq_of_cons_eq er)
                  exact Prod.ext e1 e2
                exact this ▸ hr
            have pw2 : (L.map f2).Pairwise (fun a b => leP a b = true) := by
              rw [List.pairwise_map]
              refine pw.imp_of_mem fun {x y} hx hy hxy => ?_
              obtain ⟨gx, ex, _⟩ := hf2 x (sub x hx)
              obtain ⟨gy, ey, _⟩ := hf2 y (sub y hy)
              rw [ex, ey, code_pair, code_pair] at hxy
              have := inb _ gx
              have := inb _ gy
              unfold leP
              rw [decide_eq_true_eq]
              omega
            have eq := leP_uniq pm pw2
            rw [← eq] at qq
            have dm : DmAll (Mf P as1 μ1) H1 (L.map fun q => V.ref q.1) ((L.map f2).map prD) := by
              rw [List.map_map]
              have go : ∀ l : List (Addr × List Int), (∀ p ∈ l, p ∈ ks) → DmAll (Mf P as1 μ1) H1 (l.map fun q => V.ref q.1) (l.map (prD ∘ f2)) := by
                intro l
                induction l with
                | nil => exact fun _ => .nil
                | cons p l ih => exact fun hs => .cons (hf2 p (hs p List.mem_cons_self)).2.2 (ih fun q hq => hs q (List.mem_cons_of_mem _ hq))
              exact go L sub
            have x1 : Ex P H1 as1 μ1 (upd H1 b o) as1 μ1 := Ex.laid hb
            have w2 := w1.laid (o := o) hb
            have he2 : (upd H1 b o) e' = none := by rw [upd_ne (Ne.symm hne)]; exact he'
            have x2 : Ex P (upd H1 b o) as1 μ1 (upd (upd H1 b o) e' (.lst (L.map fun q => V.ref q.1))) as1 μ1 := Ex.laid he2
            have vk := frOk (K := X.K) w2 he2 (dm.ex x1)
            exact qq _ as1 (x1.trans x2) (w2.laid he2) _ ((vk.back x1.dom).back e1.dom)
        · cases hz
      · cases hz
    · cases hz
end
end TL
/-! T10: built-ins, methods, what changes a list -/
namespace TL
open PySem PySem.Spec L2
set_option autoImplicit false
section
variable {K : PySem.W.Frag} {P : Addr → Prop} {H H1 H2 : Hp} {as as1 as2 : List Addr} {μ μ1 μ2 : Mu}
theorem set_some {n m : Nat} {e e' : Ent} (h : (μ.set n (some e'))[m]? = some (some e)) : (m = n ∧ e = e') ∨ (m ≠ n ∧ μ[m]? = some (some e)) := by
  by_cases q : n = m
  · subst q
    by_cases z : n < μ.length
    · rw [List.getElem?_set_self z] at h; cases h; exact .inl ⟨rfl, rfl⟩
    · rw [List.getElem?_eq_none (by simpa using z)] at h; cases h
  · rw [List.getElem?_set_ne q] at h
    exact .inr ⟨fun z => q z.symm, h⟩
theorem mf_put {n : Nat} {e e' : Ent} (h : μ[n]? = some (some e)) (a : Addr) (z : Mf P as (μ.set n (some e')) a) : Mf P as μ a := by
  rcases z with z | ⟨m, f, z1, z2⟩
  · exact .inl z
  · rcases set_some z2 with ⟨rfl, rfl⟩ | ⟨_, z2⟩
    · exact .inr ⟨_, e, z1, h⟩
    · exact .inr ⟨m, f, z1, z2⟩
/-- a list of the store is changed -/
theorem Ex.put (w : Wd P H as μ) {n : Nat} {p : Addr} {e e' : Ent} {o : HO} (hn : as[n]? = some p) (h : μ[n]? = some (some e)) : Ex P H as μ (upd H p o) as (μ.set n (some e')) where
  zp := fun _ h => h.elim
  pre := List.prefix_refl as
  dom := fun a n => by
    by_cases e : a = p
    · subst e; rw [upd_same]; simp
    · rw [upd_ne e]; exact n
  tab := fun a t => by
    refine tab_put (fun u hu => ?_) t
    obtain ⟨p', e1, _, e3⟩ := w.obj n e h
    rw [hn] at e1
    cases e1
    cases e with
    | lst xs =>
      obtain ⟨vs, e3, _⟩ := e3
      rw [hu] at e3
      exact ⟨vs, Option.some.inj e3⟩
    | hds ns =>
      obtain ⟨ps, e3, _⟩ := e3
      rw [hu] at e3
      exact ⟨_, Option.some.inj e3⟩
  keep := fun a u ea _ nl _ => by
    rw [upd_ne]
    · exact ea
    · rintro rfl
      exact nl ⟨n, e, hn, h⟩
  old := fun m e'' hm h2 => by
    rcases set_some h2 with ⟨rfl, rfl⟩ | ⟨_, h2⟩
    · exact ⟨e, h⟩
    · exact ⟨e'', h2⟩
  new := fun m q hm e => by
    have := (List.getElem?_eq_some_iff.mp e).1
    omega
theorem Wd.put (w : Wd P H as μ) {n : Nat} {p : Addr} {e : Ent} {vs0 : List V} {ds : List D} (hn : as[n]? = some p) (h : μ[n]? = some (some e)) (t : DmAll (Mf P as μ) H vs0 ds) :
    Wd P (upd H p (.lst vs0)) as (μ.set n (some (.lst ds))) where
  len := by rw [List.length_set]; exact w.len
  obj := fun m f hm => by
    have tr : ∀ {vs : List V} {ds' : List D}, DmAll (Mf P as μ) H vs ds' → DmAll (Mf P as (μ.set n (some (.lst ds)))) (upd H p (.lst vs0)) vs ds' := fun t => t.ex (Ex.put w hn h)
    rcases set_some hm with ⟨rfl, rfl⟩ | ⟨hne, hm⟩
    · obtain ⟨p', e1, e2, _⟩ := w.obj m e h
      rw [hn] at e1
      cases e1
      exact ⟨p, hn, e2, vs0, upd_same, tr t⟩
    · obtain ⟨p', e1, e2, e3⟩ := w.obj m f hm
      refine ⟨p', e1, e2, ?_⟩
      have hpp : p' ≠ p := fun z => by
        subst z
        exact hne (w.inj m n p' f e e1 hn hm h)
      cases f with
      | lst xs =>
        obtain ⟨ws, q1, q2⟩ := e3
        exact ⟨ws, by rw [upd_ne hpp]; exact q1, tr q2⟩
      | hds ns =>
        obtain ⟨ps, q1, q2⟩ := e3
        exact ⟨ps, by rw [upd_ne hpp]; exact q1, q2.ex (Ex.put (o := .lst vs0) (e' := .lst ds) w hn h)⟩
  pt := fun a ha => by
    by_cases e : a = p
    · subst e; rw [upd_same]; simp
    · rw [upd_ne e]; exact w.pt a ha
  inj := fun n1 m1 q e1 f1 a b h1 h2 => by
    have g1 : ∃ e, μ[n1]? = some (some e) := by
      rcases set_some h1 with ⟨rfl, rfl⟩ | ⟨_, z⟩
      · exact ⟨e, h⟩
      · exact ⟨_, z⟩
    have g2 : ∃ e, μ[m1]? = some (some e) := by
      rcases set_some h2 with ⟨rfl, rfl⟩ | ⟨_, z⟩
      · exact ⟨e, h⟩
      · exact ⟨_, z⟩
    obtain ⟨_, g1⟩ := g1
    obtain ⟨_, g2⟩ := g2
    exact w.inj n1 m1 q _ _ a b g1 g2
/-- a handle's list -/
theorem Wd.at (w : Wd P H as μ) {n : Nat} {p : Addr} {xs : List D} (hn : as[n]? = some p) (h : μ[n]? = some (some (.lst xs))) : ∃ vs, H p = some (.lst vs) ∧ DmAll (Mf P as μ) H vs xs := by
  obtain ⟨p', e1, e2, vs, q1, q2⟩ := w.obj n _ h
  rw [hn] at e1
  cases e1
  exact ⟨vs, q1, q2⟩
/-- .. ahead of a later state in which it lives -/
theorem Ex.tyL (x : Ex P H1 as1 μ1 H2 as2 μ2) (w : Wd P H1 as1 μ1) {n : Nat} {p : Addr} {e : Ent} (hn : as1[n]? = some p) (h : μ2[n]? = some (some e)) : ∃ vs, H1 p = some (.lst vs) := by
  obtain ⟨e0, h0⟩ := x.old n e (List.getElem?_eq_some_iff.mp hn).1 h
  cases e0 with
  | lst xs =>
    obtain ⟨vs, q, _⟩ := w.at hn h0
    exact ⟨vs, q⟩
  | hds ns =>
    obtain ⟨p', e1, _, ps, q, _⟩ := w.obj n _ h0
    rw [hn] at e1
    cases e1
    exact ⟨_, q⟩
end
section
variable {X : Cx} {c : MC} {W : WX} {γ : Str → Option D} {R : Str → Option (List Vl → Mu → Rs Vl)} {k : Nat} (co : Co X c W γ R k)
include co
theorem e_bi {b : Bi} {es : E} {e : Expr} (hs : ∀ l, matL c es l = true → PA X l (rL X W γ R es)) (h : mat c (.bi b es) e = true) : PE X e (rE X W γ R (.bi b es)) := by
  have hh : ∃ x r p pos, e = .Call (.Name b.name p) (x :: r) [] pos ∧ glB c b.name = true ∧ matL c es (x :: r) = true := by
    simp only [m_bi] at h
    split at h
    · simp only [Bool.and_eq_true, decide_eq_true_eq] at h
      obtain ⟨⟨rfl, h1⟩, h2⟩ := h
      exact ⟨_, _, _, _, rfl, h1, h2⟩
    · cases h
  obtain ⟨x, r, p, pos, rfl, h1, h2⟩ := hh
  have h3 : ∃ a b, es = .cons a b ∧ mat c a x = true ∧ matL c b r = true := by
    cases es with
    | cons a b =>
      simp only [mL_nil, mL_cons, Bool.and_eq_true] at h2
      exact ⟨a, b, rfl, h2.1, h2.2⟩
    | _ => (first | exact absurd h2 Bool.false_ne_true | simp [mL_nil, mL_cons] at h2)
  obtain ⟨a, bb, rfl, m1, m2⟩ := h3
  have bo := bi_ok co.calm co.hr.hd co.hg co.hu b
  have fin : ∀ σ H (Q : VK), rE X W γ R (.bi b (.cons a bb)) σ H Q → tCB (rDs X.K (biF b)) (rL X W γ R (.cons a bb)) σ H Q := by
    rintro σ H Q ⟨ρ, μ, P, as, w, ro, f⟩
    simp only [ev] at f
    refine ⟨ρ, μ, P, as, w, ro, (Fin.bind f).mono fun xs μ1 H1 as1 e1 ⟨_, w1, f1⟩ vs vos => ?_⟩
    split at f1
    · rename_i ds q1
      obtain ⟨z, hz, q⟩ := Fin.of f1
      exact ⟨P, as1, μ1, ds, z, w1, VlsOk.dv w1 vos q1, hz, Ans.of e1.dom q⟩
    · exact f1.elim
  have hst := star_of m1 r X.env
  have hpl := noStar_of m2 X.env pos
  cases b with
  | int => exact (pe_callTy (T := "int") bo (co.gl h1).1 (co.blt _ (by decide +kernel)) (by decide +kernel) (hs _ h2) (by decide +kernel) (co.gl h1).2 hst hpl).imp fin
  | str => exact (pe_callTy (T := "str") bo (co.gl h1).1 (co.blt _ (by decide +kernel)) (by decide +kernel) (hs _ h2) (by decide +kernel) (co.gl h1).2 hst hpl).imp fin
  | tuple => exact (pe_callTy (T := "tuple") bo (co.gl h1).1 (co.blt _ (by decide +kernel)) (by decide +kernel) (hs _ h2) (by decide +kernel) (co.gl h1).2 hst hpl).imp fin
  | list => exact (pe_callTy (T := "list") bo (co.gl h1).1 (co.blt _ (by decide +kernel)) (by decide +kernel) (hs _ h2) (by decide +kernel) (co.gl h1).2 hst hpl).imp fin
  | set => exact (pe_callTy (T := "set") bo (co.gl h1).1 (co.blt _ (by decide +kernel)) (by decide +kernel) (hs _ h2) (by decide +kernel) (co.gl h1).2 hst hpl).imp fin
  | abs => exact (pe_callB (id := "abs") bo (co.gl h1).1 (co.blt _ (by decide +kernel)) (by decide +kernel) (hs _ h2) (by decide +kernel) (co.gl h1).2 hst hpl).imp fin
  | max => exact (pe_callB (id := "max") bo (co.gl h1).1 (co.blt _ (by decide +kernel)) (by decide +kernel) (hs _ h2) (by decide +kernel) (co.gl h1).2 hst hpl).imp fin
  | min => exact (pe_callB (id := "min") bo (co.gl h1).1 (co.blt _ (by decide +kernel)) (by decide +kernel) (hs _ h2) (by decide +kernel) (co.gl h1).2 hst hpl).imp fin
  | all => exact (pe_callB (id := "all") bo (co.gl h1).1 (co.blt _ (by decide +kernel)) (by decide +kernel) (hs _ h2) (by decide +kernel) (co.gl h1).2 hst hpl).imp fin
  | any => exact (pe_callB (id := "any") bo (co.gl h1).1 (co.blt _ (by decide +kernel)) (by decide +kernel) (hs _ h2) (by decide +kernel) (co.gl h1).2 hst hpl).imp fin
  | sorted => exact (pe_callB (id := "sorted") bo (co.gl h1).1 (co.blt _ (by decide +kernel)) (by decide +kernel) (hs _ h2) (by decide +kernel) (co.gl h1).2 hst hpl).imp fin
  | sum => exact (pe_callB (id := "sum") bo (co.gl h1).1 (co.blt _ (by decide +kernel)) (by decide +kernel) (hs _ h2) (by decide +kernel) (co.gl h1).2 hst hpl).imp fin
  | divmod => exact (pe_callB (id := "divmod") bo (co.gl h1).1 (co.blt _ (by decide +kernel)) (by decide +kernel) (hs _ h2) (by decide +kernel) (co.gl h1).2 hst hpl).imp fin
  | repr => exact (pe_callB (id := "repr") bo (co.gl h1).1 (co.blt _ (by decide +kernel)) (by decide +kernel) (hs _ h2) (by decide +kernel) (co.gl h1).2 hst hpl).imp fin
omit co in
theorem mem_nubI : ∀ {l : List Int} {k : Int}, k ∈ nubI l ↔ k ∈ l
  | [], k => by simp [nubI]
  | a :: l, k => by
    unfold nubI
    split
    · rename_i h
      rw [mem_nubI, List.mem_cons]
      exact ⟨.inr, fun q => q.elim (fun z => z ▸ h) id⟩
    · rw [List.mem_cons, List.mem_cons, mem_nubI]
omit co in
theorem nodup_nubI : ∀ l : List Int, (nubI l).Nodup
  | [] => by simp [nubI]
  | a :: l => by
    unfold nubI
    split
    · exact nodup_nubI l
    · rename_i h
      exact List.nodup_cons.mpr ⟨fun q => h (mem_nubI.mp q), nodup_nubI l⟩
omit co in
theorem pe_lset {a : Expr} {ta : TE} {p p2 q pos : Pos} (hc : X.calm = true) (hg : Gl X "len") (hm : X.mg "len" = none) (hg2 : Gl X "set") (hm2 : X.mg "set" = none) (ha : PE X a ta)
    (na : starEach [a] X.env = (false, eval a X.env) :: starEach [] X.env) : PE X (.Call (.Name "len" p) [.Call (.Name "set" p2) [a] [] q] [] pos) (fun σ H Q => ta σ H fun x H1 => (∃ l, ∃ ns : List Int, x = .ref l ∧ SqT X.K H1 l (ns.map V.int) ∧ ns.length ≤ 1000 ∧ Q (.int (nubI ns).length) H1) ∨ ∃ z : Str, x = .str z ∧ z.length ≤ 1000 ∧ Q (.int (nubF (sgs z)).length) H1) := by
  refine ⟨fun pins s σ H Q I h => ?_⟩
  refine PyProof.Rows.Call_ (ld_blt I hg hm PySem.boot_len ?_)
  refine PyProof.Rows.callWith_builtin1 (PyProof.Rows.args_cons ?_ rfl) rfl rfl
  refine PyProof.Rows.Call_ (ld_blt I hg2 hm2 PyProof.Rows.boot_set ?_)
  refine PyProof.Rows.callWith_type1 (PyProof.Rows.args_cons (thn (ha.run pins s σ H _ I h) fun v s1 ⟨x, H1, I1, r1, q1⟩ => PyProof.Rows.args_nil ?_) na) na rfl
  rcases q1 with ⟨l, ns, rfl, hq, hl, q1⟩ | ⟨z, rfl, hl, q1⟩
  case inr =>
    obtain ⟨t, rfl⟩ := r1
    have hz : z.cps.size ≤ 1000 := hl
    refine call_set_str (I1.ok.hd hc) (by unfold scanBound; omega) fun h' tk R1 kk => ?_
    obtain ⟨o, es, ep, t, ho, hex, hdt, _, _, hb, hf, hn⟩ := R1
    refine PyProof.Rows.args_nil ?_
    have I2 : Inv X pins σ H1 { s1 with heap := h', toks := tk } := I1.kept kk
    have l2 : (nubF (sgs z)).length ≤ (sgs z).length := nubF_len _
    have l3 : (sgs z).length ≤ 1000 := by unfold sgs; simpa using hz
    have hs : es.size < 2 ^ 62 := Nat.lt_of_le_of_lt (by rw [hn]; omega) (show 1000 < 2 ^ 62 by decide)
    exact call_len_set ho hex hdt hf (by omega) ⟨.int (nubF (sgs z)).length, H1, I2.tok _, ⟨_, by rw [hn]⟩, q1⟩
  cases r1
  obtain ⟨its, rv, pt, hz⟩ := I1.tuple hq
  have hi : PyProof.Rows.IntsAre its.toArray.toList ns := ints_of_vals rv
  refine call_set_tupI ns (I1.ok.hd hc) (show s1.heap.IsTuple l its.toArray from pt) hi (by unfold scanBound; omega) fun h' tk c R1 hcn kk => ?_
  obtain ⟨o, es, ep, t, ho, hex, hdt, g, nd, hm3, hb, hf, hn, hr, hl2⟩ := R1
  refine PyProof.Rows.args_nil ?_
  have I2 : Inv X pins σ H1 { s1 with heap := h', toks := tk } := I1.kept kk
  have hlen : es.size = (nubI ns).length := by
    have pm : (es.toList.map keyOf).Perm (nubI ns) := (List.perm_ext_iff_of_nodup nd (nodup_nubI ns)).mpr fun k => by
      rw [← hm3 k, decide_eq_true_eq, mem_nubI]
    have := pm.length_eq
    rw [List.length_map, Array.length_toList] at this
    exact this
  have hs : es.size < 2 ^ 62 := Nat.lt_of_le_of_lt (by rw [hn]; omega) (show 1000 < 2 ^ 62 by decide)
  exact call_len_set ho hex hdt hf (by omega) ⟨.int (nubI ns).length, H1, I2.tok _, ⟨_, by rw [hlen]⟩, q1⟩
theorem e_lset {a : E} {e : Expr} (ha : ∀ l, mat c a l = true → PE X l (rE X W γ R a)) (h : mat c (.lset a) e = true) : PE X e (rE X W γ R (.lset a)) := by
  have hh : ∃ x p p2 pos pos2, e = .Call (.Name "len" p) [.Call (.Name "set" p2) [x] [] pos2] [] pos ∧ glB c "len" = true ∧ glB c "set" = true ∧ mat c a x = true := by
    simp only [m_lset] at h
    split at h
    · simp only [Bool.and_eq_true, decide_eq_true_eq] at h
      obtain ⟨⟨⟨⟨rfl, h1⟩, rfl⟩, h2⟩, h3⟩ := h
      exact ⟨_, _, _, _, _, rfl, h1, h2, h3⟩
    · cases h
  obtain ⟨x, p, p2, pos, pos2, rfl, h1, h2, h3⟩ := hh
  refine (pe_lset co.calm (co.gl h1).1 (co.blt _ (by decide +kernel)) (co.gl h2).1 (co.blt _ (by decide +kernel)) (ha x h3) (star_of h3 [] X.env)).imp fun σ H Q ⟨ρ, μ, P, as, w, ro, f⟩ => ?_
  simp only [ev] at f
  refine ⟨ρ, μ, P, as, w, ro, (Fin.bind f).mono fun y μ1 H1 as1 e1 ⟨_, w1, f1⟩ v vo => ?_⟩
  split at f1
  · rename_i d q1
    obtain ⟨z, hz, q⟩ := Fin.of f1
    rw [Option.map_eq_some_iff] at hz
    obtain ⟨n, hz, rfl⟩ := hz
    have dv := vo.dv w1 q1
    unfold lsF at hz
    split at hz
    · rename_i zz
      split at hz
      · rename_i hl
        cases hz
        rw [dv.str]
        exact .inr ⟨zz, rfl, hl, q H1 as1 Ex.refl w1 _ (Dm.int _)⟩
      · cases hz
    · split at hz
      · rename_i ns hn
        split at hz
        · rename_i hl
          cases hz
          obtain ⟨pp, vs, rfl, e, t⟩ := dv.tup
          rw [intsOf_map hn] at t
          rw [t.ints] at e
          exact .inl ⟨pp, ns, rfl, .of e, hl, q H1 as1 Ex.refl w1 _ (Dm.int _)⟩
        · cases hz
      · cases hz
    · cases hz
  · exact f1.elim
omit co in
theorem rg_dm {M : Addr → Prop} {H : Hp} (i j : Int) : DmAll M H (rgV i j) (rangeL i (j - i).toNat) := by
  have go : ∀ l : List Nat, DmAll M H (l.map fun k : Nat => V.int (i + (k : Nat))) (l.map fun k : Nat => PyData.int (i + (k : Int))) := fun l => by
    induction l with
    | nil => exact .nil
    | cons a l ih => exact .cons (.int _) ih
  exact go _
omit co in
theorem lr_ans {P : Addr → Prop} {H : Hp} {as : List Addr} {μ : Mu} {i j : Int} {z : Vl} {Q : VK} (h : lrF i j = some z) (w : Wd P H as μ) (q : Ans X.K P H as μ z Q) : RgOk i j ∧ ∀ p, H p = none → Q (.ref p) (upd H p (.lst (rgV i j))) := by
  unfold lrF at h
  split at h
  · rename_i hz
    cases h
    exact ⟨⟨by omega, by omega, by omega, by omega, by omega⟩, fun p hp => q.fr w hp (rg_dm i j)⟩
  · cases h
theorem e_lrg {a : E} {e : Expr} (ha : ∀ l, mat c a l = true → PE X l (rE X W γ R a)) (h : mat c (.lrg a) e = true) : PE X e (rE X W γ R (.lrg a)) := by
  have hh : ∃ x p p2 pos pos2, e = .Call (.Name "list" p) [.Call (.Name "range" p2) [x] [] pos2] [] pos ∧ glB c "list" = true ∧ glB c "range" = true ∧ mat c a x = true := by
    simp only [m_lrg] at h
    split at h
    · simp only [Bool.and_eq_true, decide_eq_true_eq] at h
      obtain ⟨⟨⟨⟨rfl, h1⟩, rfl⟩, h2⟩, h3⟩ := h
      exact ⟨_, _, _, _, _, rfl, h1, h2, h3⟩
    · cases h
  obtain ⟨x, p, p2, pos, pos2, rfl, h1, h2, h3⟩ := hh
  refine (pe_listRg co.calm (co.gl h1).1 (co.blt _ (by decide +kernel)) (prg_1 (co.gl h2).1 (co.blt _ (by decide +kernel)) (ha x h3) (star_of h3 [] X.env))).imp fun σ H Q ⟨ρ, μ, P, as, w, ro, f⟩ => ?_
  simp only [ev] at f
  refine ⟨ρ, μ, P, as, w, ro, (Fin.bind f).mono fun y μ1 H1 as1 e1 ⟨_, w1, f1⟩ v vo => ?_⟩
  cases y with
  | dt d =>
    cases d with
    | int j =>
      obtain ⟨z, hz, q⟩ := Fin.of f1
      cases (show Dm _ H1 v (.int j) from vo)
      exact ⟨j, rfl, lr_ans hz w1 (Ans.of e1.dom q)⟩
    | _ => exact f1.elim
  | _ => exact f1.elim
theorem e_lrg2 {a b : E} {e : Expr} (ha : ∀ l, mat c a l = true → PE X l (rE X W γ R a)) (hb : ∀ l, mat c b l = true → PE X l (rE X W γ R b)) (h : mat c (.lrg2 a b) e = true) : PE X e (rE X W γ R (.lrg2 a b)) := by
  have hh : ∃ x y p p2 pos pos2, e = .Call (.Name "list" p) [.Call (.Name "range" p2) [x, y] [] pos2] [] pos ∧ glB c "list" = true ∧ glB c "range" = true ∧ mat c a x = true ∧ mat c b y = true := by
    simp only [m_lrg2] at h
    split at h
    · simp only [Bool.and_eq_true, decide_eq_true_eq] at h
      obtain ⟨⟨⟨⟨⟨rfl, h1⟩, rfl⟩, h2⟩, h3⟩, h4⟩ := h
      exact ⟨_, _, _, _, _, _, rfl, h1, h2, h3, h4⟩
    · cases h
  obtain ⟨x, y, p, p2, pos, pos2, rfl, h1, h2, h3, h4⟩ := hh
  refine (pe_listRg co.calm (co.gl h1).1 (co.blt _ (by decide +kernel)) (prg_2 (co.gl h2).1 (co.blt _ (by decide +kernel)) (ha x h3) (hb y h4) (star_of h3 [y] X.env) (star_of h4 [] X.env) (noStar_of (c := c) (a := .cons b .nil) (by simp [mL_nil, mL_cons, h4]) X.env pos2))).imp fun σ H Q ⟨ρ, μ, P, as, w, ro, f⟩ => ?_
  simp only [ev] at f
  refine ⟨ρ, μ, P, as, w, ro, (Fin.bind f).mono fun y μ1 H1 as1 e1 ⟨_, w1, f1⟩ v vo => ?_⟩
  refine ⟨ρ, μ1, P, as1, w1, ro.ex e1, (Fin.bind f1).mono fun y2 μ2 H2 as2 e2 ⟨_, w2, f2⟩ v2 vo2 => ?_⟩
  have vo' := vo.ex e2
  split at f2
  · obtain ⟨z, hz, q⟩ := Fin.of f2
    cases (show Dm _ H2 v (.int _) from vo')
    cases (show Dm _ H2 v2 (.int _) from vo2)
    exact ⟨_, _, rfl, rfl, lr_ans hz w2 (Ans.of (e1.trans e2).dom q)⟩
  · exact f2.elim
omit co in
theorem isi_boot {T : String} (h : T ∈ isiTypes) : bootBuiltins (Str.ofString T) = some (.type T) ∧ Str.ofString T ∈ bltNames ∧ Str.ofString T ≠ "__name__" := by
  unfold isiTypes at h
  simp only [List.mem_cons, List.not_mem_nil, or_false] at h
  rcases h with rfl | rfl | rfl | rfl | rfl | rfl <;> decide +kernel
theorem e_isi {a : E} {T : String} {e : Expr} (ha : ∀ l, mat c a l = true → PE X l (rE X W γ R a)) (h : mat c (.isi a T) e = true) : PE X e (rE X W γ R (.isi a T)) := by
  have hh : ∃ x p p2 pos, e = .Call (.Name "isinstance" p) [x, .Name (Str.ofString T) p2] [] pos ∧ glB c "isinstance" = true ∧ mat c a x = true ∧ glB c (Str.ofString T) = true ∧ T ∈ isiTypes := by
    simp only [m_isi] at h
    split at h
    · simp only [Bool.and_eq_true, decide_eq_true_eq] at h
      obtain ⟨⟨⟨⟨⟨rfl, h1⟩, h2⟩, rfl⟩, h4⟩, h5⟩ := h
      exact ⟨_, _, _, _, rfl, h1, h2, h4, h5⟩
    · cases h
  obtain ⟨x, p, p2, pos, rfl, h1, h2, h3, h4⟩ := hh
  obtain ⟨b1, b2, b3⟩ := isi_boot h4
  have pT : PE X (.Name (Str.ofString T) p2) (tC (.ty T)) := pe_bltn (co.gl h3).1 (co.blt _ b2) b1 rfl b3 (co.gl h3).2
  refine (pe_callB (isi_ok T) (co.gl h1).1 (co.blt _ (by decide +kernel)) (by decide +kernel) (pa_cons (ha x h2) (pa_cons pT pa_nil) (star_of h2 _ X.env)) (by decide +kernel) (co.gl h1).2 (star_of h2 _ X.env) rfl).imp fun σ H Q ⟨ρ, μ, P, as, w, ro, f⟩ => ?_
  simp only [ev] at f
  refine ⟨ρ, μ, P, as, w, ro, (Fin.bind f).mono fun x μ1 H1 as1 e1 ⟨_, w1, f1⟩ v vo => ?_⟩
  split at f1
  · rename_i d q1
    obtain ⟨z, hz, q⟩ := Fin.of f1
    rw [Option.map_eq_some_iff] at hz
    obtain ⟨b, hz, rfl⟩ := hz
    exact ⟨P, as1, μ1, v, d, b, rfl, w1, vo.dv w1 q1, hz, q H1 as1 Ex.refl w1 _ (Dm.bl _)⟩
  · exact f1.elim
theorem few_of {l : List Expr} {es : E} (h : matL c es l = true) (hl : l.length < 21) (pos : Pos) : ((backTo pos (starEach l X.env)).all (fun x => !x.1) && (backToKw pos (keywordEach [] X.env)).all (fun x => x.1.isSome)
      && decide (l.length + ([] : List Keyword).length + (if ([] : List Keyword).isEmpty then 0 else 1) < 30)) = true := by
  have h1 := noStar_of h X.env pos
  have h2 : (backTo pos (starEach l X.env)).all (fun x => !x.1) = true := by
    rw [List.all_eq_not_any_not]
    simpa using h1
  rw [h2]
  simp [backToKw, keywordEach]
  omega
omit co in
theorem isL_at {P : Addr → Prop} {H H0 : Hp} {as : List Addr} {μ : Mu} {v : V} {x : Vl} (w : Wd P H as μ) (vo : VlOk P H as μ X.K H0 v x) (h : isL μ x = true) : ∃ n p vs, x = .hd n ∧ v = .ref p ∧ as[n]? = some p ∧ H p = some (.lst vs) := by
  cases x with
  | hd n =>
    obtain ⟨p, hp, rfl⟩ := vo
    simp only [isL] at h
    split at h
    · rename_i xs q
      obtain ⟨vs, q1, _⟩ := w.at hp q
      exact ⟨n, p, vs, rfl, rfl, hp, q1⟩
    · cases h
  | _ => simp [isL] at h
theorem e_app {o a : E} {e : Expr} (ho : ∀ l, mat c o l = true → PE X l (rE X W γ R o)) (ha : ∀ l, mat c a l = true → PE X l (rE X W γ R a)) (h : mat c (.app o a) e = true) : PE X e (rE X W γ R (.app o a)) := by
  have hh : ∃ l x p q, e = .Call (.Attribute l "append" p) [x] [] q ∧ mat c o l = true ∧ mat c a x = true ∧ (p.endLine == q.line) = true := by
    simp only [m_app] at h
    split at h
    · simp only [Bool.and_eq_true, decide_eq_true_eq] at h
      obtain ⟨⟨⟨rfl, h1⟩, h2⟩, h3⟩ := h
      exact ⟨_, _, _, _, rfl, h1, h2, h3⟩
    · cases h
  obtain ⟨l, x, p, q, rfl, h1, h2, h3⟩ := hh
  have hst := star_of h2 [] X.env
  refine (pe_bm PySem.F.plainAttrs_list PySem.F.slot_list_append PySem.F.type_list_append mt_append (ho l h1) (pa_cons (ha x h2) pa_nil hst) (attr_of' h1 _ X.env) (few_of co (es := .cons a .nil) (by simp [mL_nil, mL_cons, h2]) (by simp) q) h3 hst rfl).imp fun σ H Q ⟨ρ, μ, P, as, w, ro, f⟩ => ?_
  simp only [ev] at f
  refine ⟨ρ, μ, P, as, w, ro, (Fin.bind f).mono fun y μ1 H1 as1 e1 ⟨_, w1, f1⟩ v vo => ?_⟩
  cases hL : isL μ1 y with
  | false => rw [hL, if_pos rfl] at f1; exact f1.elim
  | true =>
    rw [hL, if_neg (by decide)] at f1
    obtain ⟨n, pp, vs, rfl, rfl, hp, q1⟩ := isL_at w1 vo hL
    refine ⟨.inl ⟨rfl, vs, .of q1⟩, ρ, μ1, P, as1, w1, ro.ex e1, (Fin.bind f1).mono fun z μ2 H2 as2 e2 ⟨_, w2, f2⟩ v2 vo2 => ?_⟩
    split at f2
    · rename_i n' d' hn' hd
      cases hn'
      split at f2
      · rename_i xs hx
        split at f2
        · rename_i hz
          have hp2 := pre_get e2.pre hp
          obtain ⟨ws, g1, g2⟩ := w2.at hp2 hx
          have t : DmAll (Mf P as2 μ2) H2 (ws ++ [v2]) (xs ++ [d']) := g2.append (.cons (vo2.dm hd) .nil)
          refine ⟨pp, ws, v2, rfl, rfl, g1, by rw [g2.length]; exact hz, ?_⟩
          exact f2 _ _ (Ex.put w2 hp2 hx) (w2.put hp2 hx t) _ Dm.non
        · exact f2.elim
      · exact f2.elim
    · exact f2.elim
theorem e_ext {o a : E} {e : Expr} (ho : ∀ l, mat c o l = true → PE X l (rE X W γ R o)) (ha : ∀ l, mat c a l = true → PE X l (rE X W γ R a)) (h : mat c (.ext o a) e = true) : PE X e (rE X W γ R (.ext o a)) := by
  have hh : ∃ l x p q, e = .Call (.Attribute l "extend" p) [x] [] q ∧ mat c o l = true ∧ mat c a x = true ∧ (p.endLine == q.line) = true := by
    simp only [m_ext] at h
    split at h
    · simp only [Bool.and_eq_true, decide_eq_true_eq] at h
      obtain ⟨⟨⟨rfl, h1⟩, h2⟩, h3⟩ := h
      exact ⟨_, _, _, _, rfl, h1, h2, h3⟩
    · cases h
  obtain ⟨l, x, p, q, rfl, h1, h2, h3⟩ := hh
  have hst := star_of h2 [] X.env
  refine (pe_bm PySem.F.plainAttrs_list PySem.F.slot_list_extend PySem.F.type_list_extend mt_extend (ho l h1) (pa_cons (ha x h2) pa_nil hst) (attr_of' h1 _ X.env) (few_of co (es := .cons a .nil) (by simp [mL_nil, mL_cons, h2]) (by simp) q) h3 hst rfl).imp fun σ H Q ⟨ρ, μ, P, as, w, ro, f⟩ => ?_
  simp only [ev] at f
  refine ⟨ρ, μ, P, as, w, ro, (Fin.bind f).mono fun y μ1 H1 as1 e1 ⟨_, w1, f1⟩ v vo => ?_⟩
  cases hL : isL μ1 y with
  | false => rw [hL, if_pos rfl] at f1; exact f1.elim
  | true =>
    rw [hL, if_neg (by decide)] at f1
    obtain ⟨n, pp, vs, rfl, rfl, hp, q1⟩ := isL_at w1 vo hL
    refine ⟨.inl ⟨rfl, vs, .of q1⟩, ρ, μ1, P, as1, w1, ro.ex e1, (Fin.bind f1).mono fun z μ2 H2 as2 e2 ⟨_, w2, f2⟩ v2 vo2 => ?_⟩
    split at f2
    · rename_i n' d' hn' hd
      cases hn'
      split at f2
      · rename_i xs hx
        split at f2
        · rename_i hz
          have hp2 := pre_get e2.pre hp
          obtain ⟨ws, g1, g2⟩ := w2.at hp2 hx
          cases vo2.dm hd with
          | lst g3 g4 g5 =>
            refine ⟨pp, _, ws, _, rfl, rfl, g1, g3, by rw [g2.length, g5.length]; exact hz, ?_⟩
            exact f2 _ _ (Ex.put w2 hp2 hx) (w2.put hp2 hx (g2.append g5)) _ Dm.non
        · exact f2.elim
      · exact f2.elim
    · exact f2.elim
theorem e_pop {o : E} {e : Expr} (ho : ∀ l, mat c o l = true → PE X l (rE X W γ R o)) (h : mat c (.pop o) e = true) : PE X e (rE X W γ R (.pop o)) := by
  have hh : ∃ l p q, e = .Call (.Attribute l "pop" p) [] [] q ∧ mat c o l = true ∧ (p.endLine == q.line) = true := by
    simp only [m_pop] at h
    split at h
    · simp only [Bool.and_eq_true, decide_eq_true_eq] at h
      obtain ⟨⟨rfl, h1⟩, h3⟩ := h
      exact ⟨_, _, _, rfl, h1, h3⟩
    · cases h
  obtain ⟨l, p, q, rfl, h1, h3⟩ := hh
  refine (pe_bm0 PySem.F.plainAttrs_list PySem.F.slot_list_pop PySem.F.type_list_pop mt_pop (ho l h1) (attr_of' h1 _ X.env) h3).imp fun σ H Q ⟨ρ, μ, P, as, w, ro, f⟩ => ?_
  simp only [ev] at f
  refine ⟨ρ, μ, P, as, w, ro, (Fin.bind f).mono fun y μ1 H1 as1 e1 ⟨_, w1, f1⟩ v vo => ?_⟩
  cases y with
  | hd n =>
    obtain ⟨pp, hp, rfl⟩ := vo
    simp only at f1
    split at f1
    · rename_i xs hx
      split at f1
      · rename_i d hd
        obtain ⟨ws, g1, g2⟩ := w1.at hp hx
        rw [← g2.length] at hd
        obtain ⟨v, hv, dm⟩ := g2.get hd
        refine ⟨.inl ⟨rfl, ws, .of g1⟩, pp, ws, v, rfl, rfl, g1, hv, ?_⟩
        have t : DmAll (Mf P as1 μ1) H1 ws.dropLast xs.dropLast := by
          rw [List.dropLast_eq_take, List.dropLast_eq_take, g2.length]
          exact g2.take _
        exact f1 _ _ (Ex.put w1 hp hx) (w1.put hp hx t) _ (dm.ex (Ex.put w1 hp hx))
      · exact f1.elim
    · exact f1.elim
  | _ => exact f1.elim
theorem e_popAt {o a : E} {e : Expr} (ho : ∀ l, mat c o l = true → PE X l (rE X W γ R o)) (ha : ∀ l, mat c a l = true → PE X l (rE X W γ R a)) (h : mat c (.popAt o a) e = true) : PE X e (rE X W γ R (.popAt o a)) := by
  have hh : ∃ l x p q, e = .Call (.Attribute l "pop" p) [x] [] q ∧ mat c o l = true ∧ mat c a x = true ∧ (p.endLine == q.line) = true := by
    simp only [m_popAt] at h
    split at h
    · simp only [Bool.and_eq_true, decide_eq_true_eq] at h
      obtain ⟨⟨⟨rfl, h1⟩, h2⟩, h3⟩ := h
      exact ⟨_, _, _, _, rfl, h1, h2, h3⟩
    · cases h
  obtain ⟨l, x, p, q, rfl, h1, h2, h3⟩ := hh
  have hst := star_of h2 [] X.env
  refine (pe_bm PySem.F.plainAttrs_list PySem.F.slot_list_pop PySem.F.type_list_pop mt_popAt (ho l h1) (pa_cons (ha x h2) pa_nil hst) (attr_of' h1 _ X.env) (few_of co (es := .cons a .nil) (by simp [mL_nil, mL_cons, h2]) (by simp) q) h3 hst rfl).imp fun σ H Q ⟨ρ, μ, P, as, w, ro, f⟩ => ?_
  simp only [ev] at f
  refine ⟨ρ, μ, P, as, w, ro, (Fin.bind f).mono fun y μ1 H1 as1 e1 ⟨_, w1, f1⟩ v vo => ?_⟩
  cases hL : isL μ1 y with
  | false => rw [hL, if_pos rfl] at f1; exact f1.elim
  | true =>
    rw [hL, if_neg (by decide)] at f1
    obtain ⟨n, pp, vs, rfl, rfl, hp, q1⟩ := isL_at w1 vo hL
    refine ⟨.inl ⟨rfl, vs, .of q1⟩, ρ, μ1, P, as1, w1, ro.ex e1, (Fin.bind f1).mono fun z μ2 H2 as2 e2 ⟨_, w2, f2⟩ v2 vo2 => ?_⟩
    cases z with
    | dt dz =>
      cases dz with
      | int j =>
        simp only at f2
        split at f2
        · rename_i xs hx
          split at f2
          · rename_i hj
            split at f2
            · rename_i d hd
              have hp2 := pre_get e2.pre hp
              obtain ⟨ws, g1, g2⟩ := w2.at hp2 hx
              cases (show Dm _ H2 v2 (.int j) from vo2)
              obtain ⟨v, hv, dm⟩ := g2.get hd
              have hlt : j.toNat < ws.length := (List.getElem?_eq_some_iff.mp hv).1
              refine ⟨pp, ws, j, j.toNat, v, rfl, rfl, g1, by omega, hj.2, seqIndex_of hj.1 (by omega), hv, ?_⟩
              exact f2 _ _ (Ex.put w2 hp2 hx) (w2.put hp2 hx (g2.eraseIdx _)) _ (dm.ex (Ex.put w2 hp2 hx))
            · exact f2.elim
          · exact f2.elim
        · exact f2.elim
      | _ => exact f2.elim
    | _ => exact f2.elim
end
end TL
/-! T11: methods; what is walked -/
namespace TL
open PySem PySem.Spec L2
set_option autoImplicit false
section
variable {X : Cx}
def Mt.id : Mt → String
  | .join => "str.join" | .count => "str.count" | .index => "str.index" | .rfind => "str.rfind" | .split => "str.split"
theorem mt_ok (m : Mt) : MtR X m.id (rDm X.K (mtF m)) := by
  intro pins s σ H x xs v us Q I rx rs h
  obtain ⟨P, as, μ, d, ds, z, w, hd, hds, hg, q⟩ := h
  unfold mtF at hg
  split at hg
  · obtain ⟨y, rfl, h1⟩ := hds.one
    rw [hd.str] at rx
    split at hg
    · rename_i ys hy
      split at hg
      · rename_i hz
        cases hg
        obtain ⟨p, vs, rfl, e, t⟩ := h1.list
        rw [strsOf_map hy] at t
        rw [t.strs] at e
        exact mt_join pins s σ H _ _ v us Q I rx rs ⟨_, p, ys, rfl, rfl, .inl (.of e), hz, q.dt w (.str _)⟩
      · cases hg
    · cases hg
  · cases hg
    obtain ⟨y, rfl, h1⟩ := hds.one
    rw [hd.str] at rx
    rw [h1.str] at rs
    exact mt_count pins s σ H _ _ v us Q I rx rs ⟨_, _, rfl, rfl, q.dt w (.int _)⟩
  · cases hg
    obtain ⟨y, rfl, h1⟩ := hds.one
    rw [hd.str] at rx
    rw [h1.str] at rs
    exact mt_rfind pins s σ H _ _ v us Q I rx rs ⟨_, _, rfl, rfl, q.dt w (.int _)⟩
  · obtain ⟨y, rfl, h1⟩ := hds.one
    rw [hd.str] at rx
    rw [h1.str] at rs
    split at hg
    · rename_i i rest hi
      cases hg
      exact mt_sindex pins s σ H _ _ v us Q I rx rs ⟨_, _, i, rest, rfl, rfl, hi, q.dt w (.int _)⟩
    · cases hg
  · split at hg
    · rename_i hz
      cases hg
      obtain ⟨y, rfl, h1⟩ := hds.one
      rw [hd.str] at rx
      rw [h1.str] at rs
      exact mt_split pins s σ H _ _ v us Q I rx rs ⟨_, _, rfl, rfl, hz.1, hz.2, fun p hp => q.fr w hp (DmAll.ofStrs _ _ _)⟩
    · cases hg
  · cases hg
end
/-! ### what is walked -/
/-- the iterator J yields the items ds, from the state (H0, as0, μ0) on -/
structure Wk (J : It) (ds : List D) (P : Addr → Prop) (H0 : Hp) (as0 : List Addr) (μ0 : Mu) : Prop where
  go : ∀ (Z P' : Addr → Prop) (i : Nat) (H : Hp) (as : List Addr) (μ : Mu), (∀ a, P' a → P a ∨ H0 a = none) → ExZ Z P' H0 as0 μ0 H as μ → Wd P' H as μ → i < ds.length → J.go i H
  stop : ∀ (Z P' : Addr → Prop) (i : Nat) (H : Hp) (as : List Addr) (μ : Mu), (∀ a, P' a → P a ∨ H0 a = none) → ExZ Z P' H0 as0 μ0 H as μ → Wd P' H as μ → ds.length ≤ i → J.stop i H
  yld : ∀ (Z P' : Addr → Prop) (i : Nat) (H : Hp) (as : List Addr) (μ : Mu) (x : V) (H' : Hp), (∀ a, P' a → P a ∨ H0 a = none) → ExZ Z P' H0 as0 μ0 H as μ → Wd P' H as μ → i < ds.length → J.yld i H x H' →
    ∃ d, ds[i]? = some d ∧ Dm (Mf P' as μ) H' x d ∧ Ex P' H as μ H' as μ ∧ Wd P' H' as μ
section
variable {P : Addr → Prop} {H0 : Hp} {as0 : List Addr} {μ0 : Mu} {K : PySem.W.Frag}
theorem mfP {Z P' : Addr → Prop} {H : Hp} {as : List Addr} {μ : Mu} (hp : ∀ a, P' a → P a ∨ H0 a = none) (x : ExZ Z P' H0 as0 μ0 H as μ) (w0 : Wd P H0 as0 μ0) (a : Addr) (h : Mf P' as μ a) : Mf P as0 μ0 a ∨ H0 a = none := by
  rcases x.mf a h with (h | ⟨n, e, h1, h2⟩) | h
  · rcases hp a h with h | h
    · exact .inl (.inl h)
    · exact .inr h
  · exact .inl (.inr ⟨n, e, h1, h2⟩)
  · exact .inr h
theorem keepP {Z P' : Addr → Prop} {H : Hp} {as : List Addr} {μ : Mu} (hp : ∀ a, P' a → P a ∨ H0 a = none) (x : ExZ Z P' H0 as0 μ0 H as μ) (a : Addr) (o : HO) (e : H0 a = some o) (nt : o.nt) (n : ¬ Mf P as0 μ0 a) : H a = some o := by
  refine x.kp a o e nt fun z => ?_
  rcases z with z | z
  · rcases hp a z with z | z
    · exact n (.inl z)
    · rw [e] at z; cases z
  · exact n (.inr z)
theorem DmAll.toP {Z P' : Addr → Prop} {H : Hp} {as : List Addr} {μ : Mu} (hp : ∀ a, P' a → P a ∨ H0 a = none) (x : ExZ Z P' H0 as0 μ0 H as μ) (w0 : Wd P H0 as0 μ0) {vs : List V} {ds : List D} (t : DmAll (Mf P as0 μ0) H0 vs ds) : DmAll (Mf P' as μ) H vs ds :=
  t.to' (keepP hp x) (mfP hp x w0)
theorem wk_list {a : Addr} {vs : List V} {ds : List D} (w0 : Wd P H0 as0 μ0) (e : H0 a = some (.lst vs)) (n : ¬ Mf P as0 μ0 a) (t : DmAll (Mf P as0 μ0) H0 vs ds) : Wk (Itl K a) ds P H0 as0 μ0 where
  go := fun Z P' i H as μ hp x w hi => by
    have e' := keepP hp x a _ e (nt_lst _) n
    have hi' : i < vs.length := by rw [t.length]; exact hi
    exact ⟨vs, vs[i], .of e', List.getElem?_eq_getElem hi'⟩
  stop := fun Z P' i H as μ hp x w hi => ⟨vs, .of (keepP hp x a _ e (nt_lst _) n), by rw [t.length]; exact hi⟩
  yld := fun Z P' i H as μ y H' hp x w hi hy => by
    obtain ⟨rfl, hy⟩ := hy
    have t' := t.toP hp x w0
    obtain ⟨d, h1, h2⟩ := t'.getV (hy vs (.of (keepP hp x a _ e (nt_lst _) n)))
    exact ⟨d, h1, h2, Ex.refl, w⟩
theorem wk_tup {a : Addr} {vs : List V} {ds : List D} (w0 : Wd P H0 as0 μ0) (e : H0 a = some (.tup vs)) (n : ¬ Mf P as0 μ0 a) (t : DmAll (Mf P as0 μ0) H0 vs ds) : Wk (Itt K a) ds P H0 as0 μ0 where
  go := fun Z P' i H as μ hp x w hi => by
    have e' := keepP hp x a _ e (nt_tup _) n
    have hi' : i < vs.length := by rw [t.length]; exact hi
    exact ⟨vs, vs[i], .of e', List.getElem?_eq_getElem hi'⟩
  stop := fun Z P' i H as μ hp x w hi => ⟨vs, .of (keepP hp x a _ e (nt_tup _) n), by rw [t.length]; exact hi⟩
  yld := fun Z P' i H as μ y H' hp x w hi hy => by
    obtain ⟨rfl, hy⟩ := hy
    have t' := t.toP hp x w0
    obtain ⟨d, h1, h2⟩ := t'.getV (hy vs (.of (keepP hp x a _ e (nt_tup _) n)))
    exact ⟨d, h1, h2, Ex.refl, w⟩
theorem wk_str {x : Str} : Wk (Its x) (signs x) P H0 as0 μ0 where
  go := fun Z P' i H as μ hp _ w hi => by
    unfold signs at hi
    rw [List.length_map, Array.length_toList] at hi
    exact hi
  stop := fun Z P' i H as μ hp _ w hi => by
    unfold signs at hi
    rw [List.length_map, Array.length_toList] at hi
    exact hi
  yld := fun Z P' i H as μ y H' hp _ w hi hy => by
    obtain ⟨rfl, cc, hc, rfl⟩ := hy
    refine ⟨.str ⟨#[cc]⟩, ?_, .str _, Ex.refl, w⟩
    unfold signs
    rw [List.getElem?_map]
    have : x.cps.toList[i]? = some cc := by simpa using hc
    rw [this]
    rfl
theorem wk_zip {a b : Addr} {vs us : List V} {ds es : List D} (w0 : Wd P H0 as0 μ0) (e : H0 a = some (.tup vs)) (n : ¬ Mf P as0 μ0 a) (t : DmAll (Mf P as0 μ0) H0 vs ds) (e2 : H0 b = some (.tup us)) (n2 : ¬ Mf P as0 μ0 b) (t2 : DmAll (Mf P as0 μ0) H0 us es) :
    Wk (RZ.ItzT K a b) ((ds.zip es).map fun p => .tuple [p.1, p.2]) P H0 as0 μ0 where
  go := fun Z P' i H as μ hp x w hi => by
    have e' := keepP hp x a _ e (nt_tup _) n
    have e2' := keepP hp x b _ e2 (nt_tup _) n2
    rw [List.length_map, List.length_zip] at hi
    have hi' : i < vs.length := by rw [t.length]; omega
    have hi2 : i < us.length := by rw [t2.length]; omega
    exact ⟨vs, us, vs[i], us[i], .of e', .of e2', List.getElem?_eq_getElem hi', List.getElem?_eq_getElem hi2⟩
  stop := fun Z P' i H as μ hp x w hi => by
    rw [List.length_map, List.length_zip, ← t.length, ← t2.length] at hi
    exact ⟨vs, us, .of (keepP hp x a _ e (nt_tup _) n), .of (keepP hp x b _ e2 (nt_tup _) n2), by omega⟩
  yld := fun Z P' i H as μ y H' hp x w hi hy => by
    obtain ⟨T, x1, x2, rfl, hT, rfl, f1, f2⟩ := hy
    obtain ⟨d1, g1, m1⟩ := (t.toP hp x w0).getV (f1 vs (.of (keepP hp x a _ e (nt_tup _) n)))
    obtain ⟨d2, g2, m2⟩ := (t2.toP hp x w0).getV (f2 us (.of (keepP hp x b _ e2 (nt_tup _) n2)))
    refine ⟨.tuple [d1, d2], ?_, tupOk w hT (.cons m1 (.cons m2 .nil)), Ex.laid hT, w.laid hT⟩
    have hz : (ds.zip es)[i]? = some (d1, d2) := List.getElem?_zip_eq_some.mpr ⟨g1, g2⟩
    rw [List.getElem?_map, hz]
    rfl
theorem wk_rng {lo : Int} {n : Nat} : Wk (Itr lo n) (rangeL lo n) P H0 as0 μ0 where
  go := fun Z P' i H as μ hp _ w hi => by
    unfold rangeL at hi
    rw [List.length_map, List.length_range] at hi
    exact hi
  stop := fun Z P' i H as μ hp _ w hi => by
    unfold rangeL at hi
    rw [List.length_map, List.length_range] at hi
    exact hi
  yld := fun Z P' i H as μ y H' hp _ w hi hy => by
    obtain ⟨rfl, rfl⟩ := hy
    refine ⟨.int (lo + i), ?_, .int _, Ex.refl, w⟩
    unfold rangeL at hi ⊢
    rw [List.length_map, List.length_range] at hi
    rw [List.getElem?_map, List.getElem?_range hi]
    rfl
theorem wk_rngC {lo c : Int} {n : Nat} : Wk (Itc lo c n) ((List.range n).map fun t => .int (lo + (t : Nat) * c)) P H0 as0 μ0 where
  go := fun Z P' i H as μ hp _ w hi => by
    rw [List.length_map, List.length_range] at hi
    exact hi
  stop := fun Z P' i H as μ hp _ w hi => by
    rw [List.length_map, List.length_range] at hi
    exact hi
  yld := fun Z P' i H as μ y H' hp _ w hi hy => by
    obtain ⟨rfl, rfl⟩ := hy
    refine ⟨.int (lo + (i : Nat) * c), ?_, .int _, Ex.refl, w⟩
    rw [List.length_map, List.length_range] at hi
    rw [List.getElem?_map, List.getElem?_range hi]
    rfl
end
def tXI (mg : Str → Option Value) (W : WX) (K : PySem.W.Frag) (f : Ro → Mu → Rs (List D)) : TI := fun σ H Rr => ∃ ρ μ P as, Wd P H as μ ∧ RoOk K P H as μ σ ρ ∧ Fin mg W P σ H as μ (f ρ μ) fun ds μ' H' as' => ∀ J, Wk J ds P H' as' μ' → Rr J H'
abbrev rI' (X : Cx) (W : WX) (γ : Str → Option D) (R : Str → Option (List Vl → Mu → Rs Vl)) (a : E) : TI := tXI X.mg W X.K (evI R γ a)
section
variable {X : Cx} {c : MC} {W : WX} {γ : Str → Option D} {R : Str → Option (List Vl → Mu → Rs Vl)} {k : Nat} (co : Co X c W γ R k)
include co
theorem e_mt {m : Mt} {o es : E} {e : Expr} (ho : ∀ l, mat c o l = true → PE X l (rE X W γ R o)) (hs : ∀ l, matL c es l = true → PA X l (rL X W γ R es)) (h : mat c (.mt m o es) e = true) : PE X e (rE X W γ R (.mt m o es)) := by
  have hh : ∃ l x r p q, e = .Call (.Attribute l m.name p) (x :: r) [] q ∧ mat c o l = true ∧ matL c es (x :: r) = true ∧ r.length < 20 ∧ (p.endLine == q.line) = true := by
    simp only [m_mt] at h
    split at h
    · simp only [Bool.and_eq_true, decide_eq_true_eq] at h
      obtain ⟨⟨⟨⟨rfl, h1⟩, h2⟩, h3⟩, h4⟩ := h
      exact ⟨_, _, _, _, _, rfl, h1, h2, h3, h4⟩
    · cases h
  obtain ⟨l, x, r, p, q, rfl, h1, h2, h3, h4⟩ := hh
  have hx : ∃ a b, es = .cons a b ∧ mat c a x = true ∧ matL c b r = true := by
    cases es with
    | cons a b =>
      simp only [mL_nil, mL_cons, Bool.and_eq_true] at h2
      exact ⟨a, b, rfl, h2.1, h2.2⟩
    | _ => (first | exact absurd h2 Bool.false_ne_true | simp [mL_nil, mL_cons] at h2)
  obtain ⟨a, b, rfl, m1, m2⟩ := hx
  have hst := star_of m1 r X.env
  have hpl := noStar_of m2 X.env q
  have hfew := few_of co h2 (by rw [List.length_cons]; omega) q
  have fin : ∀ σ H (Q : VK), rE X W γ R (.mt m o (.cons a b)) σ H Q → tBM X.K "str" (rDm X.K (mtF m)) (rE X W γ R o) (rL X W γ R (.cons a b)) σ H Q := by
    rintro σ H Q ⟨ρ, μ, P, as, w, ro, f⟩
    simp only [ev] at f
    refine ⟨ρ, μ, P, as, w, ro, (Fin.bind f).mono fun y μ1 H1 as1 e1 ⟨_, w1, f1⟩ v vo => ?_⟩
    cases hT : isT m μ1 y with
    | false => rw [hT, if_pos rfl] at f1; exact f1.elim
    | true =>
      rw [hT, if_neg (by decide)] at f1
      have hty : ∃ z, v = .str z := by
        unfold isT at hT
        split at hT
        · rename_i d hd
          have dv := vo.dv w1 hd
          cases d with
          | str z => exact ⟨z, dv.str⟩
          | _ => cases m <;> simp [tyD, Mt.T] at hT
        · cases hT
      obtain ⟨z, rfl⟩ := hty
      refine ⟨rfl, ρ, μ1, P, as1, w1, ro.ex e1, (Fin.bind f1).mono fun xs μ2 H2 as2 e2 ⟨_, w2, f2⟩ vs vos => ?_⟩
      split at f2
      · rename_i d ds q1 q2
        obtain ⟨zz, hz, q⟩ := Fin.of f2
        exact ⟨P, as2, μ2, d, ds, zz, w2, (vo.ex e2).dv w2 q1, VlsOk.dv w2 vos q2, hz, Ans.of (e1.trans e2).dom q⟩
      · exact f2.elim
  have mo := mt_ok (X := X) m
  cases m with
  | join => exact (pe_bm PySem.F.plainAttrs_str PySem.F.slot_str_join PySem.F.type_str_join mo (ho l h1) (hs _ h2) (attr_of' h1 _ X.env) hfew h4 hst hpl).imp fin
  | count => exact (pe_bm PySem.F.plainAttrs_str PySem.F.slot_str_count PySem.F.type_str_count mo (ho l h1) (hs _ h2) (attr_of' h1 _ X.env) hfew h4 hst hpl).imp fin
  | index => exact (pe_bm PySem.F.plainAttrs_str PySem.F.slot_str_index PySem.F.type_str_index mo (ho l h1) (hs _ h2) (attr_of' h1 _ X.env) hfew h4 hst hpl).imp fin
  | rfind => exact (pe_bm PySem.F.plainAttrs_str PySem.F.slot_str_rfind PySem.F.type_str_rfind mo (ho l h1) (hs _ h2) (attr_of' h1 _ X.env) hfew h4 hst hpl).imp fin
  | split => exact (pe_bm PySem.F.plainAttrs_str PySem.F.slot_str_split PySem.F.type_str_split mo (ho l h1) (hs _ h2) (attr_of' h1 _ X.env) hfew h4 hst hpl).imp fin
theorem e_lix {a b : E} {e : Expr} (ha : ∀ l, mat c a l = true → PE X l (rE X W γ R a)) (hb : ∀ l, mat c b l = true → PE X l (rE X W γ R b)) (h : mat c (.lix a b) e = true) : PE X e (rE X W γ R (.lix a b)) := by
  have hh : ∃ l x p q, e = .Call (.Attribute l "index" p) [x] [] q ∧ mat c a l = true ∧ mat c b x = true ∧ (p.endLine == q.line) = true := by
    simp only [m_lix] at h
    split at h
    · simp only [Bool.and_eq_true, decide_eq_true_eq] at h
      obtain ⟨⟨⟨rfl, h1⟩, h2⟩, h3⟩ := h
      exact ⟨_, _, _, _, rfl, h1, h2, h3⟩
    · cases h
  obtain ⟨l, x, p, q, rfl, h1, h2, h4⟩ := hh
  have hst := star_of h2 [] X.env
  have hm : matL c (.cons b .nil) [x] = true := by simp [mL_nil, mL_cons, h2]
  have hfew := few_of co hm (by simp) q
  have hpl : (backTo q (starEach [] X.env)).any (·.1) = false := rfl
  refine (pe_bm PySem.F.plainAttrs_list PySem.F.slot_list_index PySem.F.type_list_index (mt_indexD (X := X) (by have := co.hu; omega)) (ha l h1) (pa_cons (hb x h2) pa_nil hst) (attr_of' h1 _ X.env) hfew h4 hst hpl).imp ?_
  rintro σ H Q ⟨ρ, μ, P, as, w, ro, f⟩
  simp only [ev] at f
  refine ⟨ρ, μ, P, as, w, ro, (Fin.bind f).mono fun y μ1 H1 as1 e1 ⟨_, w1, f1⟩ v vo => ?_⟩
  cases hT : isLs μ1 y with
  | false => rw [hT, if_pos rfl] at f1; exact f1.elim
  | true =>
    rw [hT, if_neg (by decide)] at f1
    have hty : tyV X.K "list" v H1 ∧ ∃ p, v = .ref p := by
      unfold isLs at hT
      split at hT
      · rename_i d hd
        obtain ⟨p, xs, rfl, e, t⟩ := (vo.dv w1 hd).list
        exact ⟨.inl ⟨rfl, xs, .of e⟩, p, rfl⟩
      · cases hT
    obtain ⟨ty, pa, rfl⟩ := hty
    refine ⟨ty, ρ, μ1, P, as1, w1, ro.ex e1, (Fin.bind f1).mono fun z μ2 H2 as2 e2 ⟨_, w2, f2⟩ u uo => ?_⟩
    split at f2
    · rename_i d dd q1 q2
      obtain ⟨zz, hz, q⟩ := Fin.of f2
      rw [Option.map_eq_some_iff] at hz
      obtain ⟨n, hz, rfl⟩ := hz
      have dv := (vo.ex e2).dv w2 q1
      have du := uo.dv w2 q2
      unfold lixF at hz
      split at hz
      · rename_i ds
        split at hz
        · rename_i hs
          rw [Bool.and_eq_true] at hs
          rw [Option.map_eq_some_iff] at hz
          obtain ⟨j, hj, rfl⟩ := hz
          rw [List.findIdx?_eq_some_iff_getElem] at hj
          obtain ⟨jl, j1, j2⟩ := hj
          refine ⟨pa, u, dd, ds, j, ds[j], rfl, rfl, dv.dp (nd_of hs.1), du.dp (nd_of hs.2), hs.1, hs.2, List.getElem?_eq_getElem jl, j1, fun m z' hm hz' => ?_, q H2 as2 Ex.refl w2 _ (Dm.int _)⟩
          obtain ⟨ml, rfl⟩ := List.getElem?_eq_some_iff.mp hz'
          simpa using j2 m hm
        · cases hz
      · cases hz
    · exact f2.elim
theorem e_upp {a : E} {e : Expr} (ha : ∀ l, mat c a l = true → PE X l (rE X W γ R a)) (h : mat c (.upp a) e = true) : PE X e (rE X W γ R (.upp a)) := by
  have hh : ∃ l p q, e = .Call (.Attribute l "upper" p) [] [] q ∧ mat c a l = true ∧ (p.endLine == q.line) = true := by
    simp only [m_upp] at h
    split at h
    · simp only [Bool.and_eq_true, decide_eq_true_eq] at h
      obtain ⟨⟨rfl, h1⟩, h3⟩ := h
      exact ⟨_, _, _, rfl, h1, h3⟩
    · cases h
  obtain ⟨l, p, q, rfl, h1, h4⟩ := hh
  refine (pe_upper (ha l h1) (attr_of' h1 _ X.env) h4).imp ?_
  rintro σ H Q ⟨ρ, μ, P, as, w, ro, f⟩
  simp only [ev] at f
  refine ⟨ρ, μ, P, as, w, ro, (Fin.bind f).mono fun y μ1 H1 as1 e1 ⟨_, w1, f1⟩ v vo => ?_⟩
  split at f1
  · rename_i d q1
    obtain ⟨zz, hz, q⟩ := Fin.of f1
    rw [Option.map_eq_some_iff] at hz
    obtain ⟨n, hz, rfl⟩ := hz
    have dv := vo.dv w1 q1
    unfold uppF at hz
    split at hz
    · rename_i z
      split at hz
      · rename_i hl
        cases hz
        rw [dv.str]
        exact ⟨⟨z, rfl⟩, z, rfl, rfl, hl, q H1 as1 Ex.refl w1 _ (Dm.str _)⟩
      · cases hz
    · cases hz
  · exact f1.elim
theorem e_edt {e : Expr} (h : mat c .edt e = true) : PE X e (rE X W γ R .edt) := by
  have hh : ∃ p, e = .Dict [] [] p := by
    simp only [m_var, m_frz, m_cst, m_glb, m_bin, m_neg, m_not, m_cmp, m_chn, m_and, m_or, m_ife, m_tup, m_lst, m_idx, m_slc, m_rev, m_lc, m_lcf, m_len, m_call, m_bi, m_isi, m_mt, m_app, m_ext, m_pop, m_popAt, m_rvs, m_sset, m_chn3, m_lix, m_upp, m_srk, m_edt, m_idh, m_lol, m_lset, m_mk, m_lrg, m_lrg2, m_nil, m_cons, m_rng, m_zip, m_enm, m_itv] at h
    split at h
    · exact ⟨_, rfl⟩
    · cases h
  obtain ⟨p, rfl⟩ := hh
  refine pe_dnewK.imp fun σ H Q ⟨ρ, μ, P, as, w, ro, f⟩ => fun a ha => ?_
  simp only [ev] at f
  have kp : ∀ b o, H b = some o → upd H a (.dK []) b = some o := fun b o e => by
    rw [upd_ne (fun z => by rw [z, ha] at e; cases e)]
    exact e
  have ex : Ex P H as μ (upd H a (.dK [])) as μ := Ex.laid ha
  have wd : Wd P (upd H a (.dK [])) as μ := by
    refine ⟨w.len, fun n e q => ?_, fun b z => ex.dom b (w.pt b z), w.inj⟩
    obtain ⟨p, h1, h2, h3⟩ := w.obj n e q
    refine ⟨p, h1, h2, ?_⟩
    cases e with
    | lst xs =>
      obtain ⟨vs, e1, t⟩ := h3
      exact ⟨vs, kp _ _ e1, t.to (fun a o e _ => kp a o e) fun a z => .inl z⟩
    | hds ns =>
      obtain ⟨ps, e1, t⟩ := h3
      exact ⟨ps, kp _ _ e1, t⟩
  exact f _ as ex wd (.ref a) (Dm.emp upd_same (w.free ha))
/-! ### iterables -/
theorem i_itv {a : E} {tg e : Expr} (ha : ∀ l, mat c a l = true → PE X l (rE X W γ R a)) (h : matI c (.itv a) e = true) : PI X tg e (rI' X W γ R (.itv a)) := by
  have pe := ha e h
  refine ⟨fun pins s σ H Rr I ⟨ρ, μ, P, as, w, ro, f⟩ => ?_⟩
  simp only [evI] at f
  cases q0 : ev R γ a ρ μ with
  | ok x μ1 =>
    rw [q0] at f
    simp only [Rs.bind] at f
    cases hd : x.data with
    | none => unfold itemsOf at f; rw [hd] at f; exact f.elim
    | some d =>
      unfold itemsOf at f
      rw [hd] at f
      cases d with
      | list ds =>
        refine (pi_list pe).run pins s σ H Rr I ⟨ρ, μ, P, as, w, ro, ?_⟩
        rw [q0]
        intro H1 as1 e1 w1 v vo
        cases vo.dm hd with
        | lst g1 g2 g3 => exact ⟨_, rfl, ⟨_, .of g1⟩, f H1 as1 e1 w1 _ (wk_list w1 g1 g2 g3)⟩
      | tuple ds =>
        refine (pi_tup pe).run pins s σ H Rr I ⟨ρ, μ, P, as, w, ro, ?_⟩
        rw [q0]
        intro H1 as1 e1 w1 v vo
        cases vo.dm hd with
        | tup g1 g2 g3 => exact ⟨_, rfl, ⟨_, .of g1⟩, f H1 as1 e1 w1 _ (wk_tup w1 g1 g2 g3)⟩
      | str z =>
        refine (pi_str pe).run pins s σ H Rr I ⟨ρ, μ, P, as, w, ro, ?_⟩
        rw [q0]
        intro H1 as1 e1 w1 v vo
        cases vo.dm hd with
        | str => exact ⟨z, rfl, f H1 as1 e1 w1 _ wk_str⟩
      | _ => exact f.elim
  | exc cc μ1 =>
    rw [q0] at f
    refine (pi_list pe).run pins s σ H Rr I ⟨ρ, μ, P, as, w, ro, ?_⟩
    rw [q0]
    exact f
  | bad => rw [q0] at f; exact f.elim
omit co in
theorem datas_data : ∀ {xs : List Vl} {ds : List D}, datas [] xs = some ds → ∀ {P : Addr → Prop} {H H0 : Hp} {as : List Addr} {μ : Mu} {vs : List V}, VlsOk P H as μ X.K H0 vs xs → DmAll (Mf P as μ) H vs ds
  | [], _, e, _, _, _, _, _, _, .nil => by cases e; exact .nil
  | x :: xs, ds, e, _, _, _, _, _, _, .cons h t => by
    unfold datas at e
    split at e
    · rename_i d ds' h1 h2
      cases e
      refine .cons (h.dm ?_) (datas_data h2 t)
      cases x with
      | dt d' => exact h1
      | hd n => simp [drf] at h1
      | fr ys => exact h1
      | scr ns => exact h1
    · cases e
theorem i_rng {es : E} {tg e : Expr} (hs : ∀ l, matL c es l = true → PA X l (rL X W γ R es)) (h : matI c (.rng es) e = true) : PI X tg e (rI' X W γ R (.rng es)) := by
  have hh : ∃ x r p pos, e = .Call (.Name "range" p) (x :: r) [] pos ∧ glB c "range" = true ∧ matL c es (x :: r) = true ∧ r.length ≤ 2 := by
    simp only [mI_rng, mI_itv] at h
    split at h
    · simp only [Bool.and_eq_true, decide_eq_true_eq] at h
      obtain ⟨⟨⟨rfl, h1⟩, h2⟩, h3⟩ := h
      exact ⟨_, _, _, _, rfl, h1, h2, h3⟩
    · cases h
  obtain ⟨x, r, p, pos, rfl, h1, h2, hr1⟩ := hh
  have hx : ∃ a b, es = .cons a b ∧ mat c a x = true ∧ matL c b r = true := by
    cases es with
    | cons a b =>
      simp only [mL_nil, mL_cons, Bool.and_eq_true] at h2
      exact ⟨a, b, rfl, h2.1, h2.2⟩
    | _ => (first | exact absurd h2 Bool.false_ne_true | simp [mL_nil, mL_cons] at h2)
  obtain ⟨a, b, rfl, m1, m2⟩ := hx
  have pa := hs _ h2
  match r, m2 with
  | [], m2 =>
    refine (pi_range1 (co.gl h1).1 (co.blt _ (by decide +kernel)) pa (star_of m1 [] X.env)).imp fun σ H Rr ⟨ρ, μ, P, as, w, ro, f⟩ => ?_
    simp only [evI] at f
    refine ⟨ρ, μ, P, as, w, ro, ?_⟩
    have f' := Fin.bind f
    cases q0 : evL R γ (.cons a b) ρ μ with
    | ok xs μ1 =>
      rw [q0] at f'
      intro H1 as1 e1 w1 vs vos
      obtain ⟨_, _, f1⟩ := f' H1 as1 e1 w1
      have hl := len_evL h2 q0
      split at f1
      · rename_i ds hds
        have t := datas_data hds vos
        obtain ⟨z, hz, q⟩ := Fin.of f1
        have lv := len_vls vos
        rw [hl] at lv
        have ld := t.length
        rw [lv] at ld
        match ds, ld, t, hz with
        | [d], _, t, hz =>
          cases d with
          | int j =>
            simp only [rngF] at hz
            split at hz
            · rename_i hj
              cases hz
              cases t with
              | cons g1 g2 =>
                cases g1
                cases g2
                exact ⟨j, rfl, hj.1, hj.2, q H1 as1 Ex.refl w1 _ wk_rng⟩
            · cases hz
          | _ => simp [rngF] at hz
      · exact f1.elim
    | exc cc μ1 => rw [q0] at f'; exact f'
    | bad => rw [q0] at f'; exact f'
  | [y], m2 =>
    have m3 : ∃ b1 b2, b = .cons b1 b2 ∧ mat c b1 y = true := by
      cases b with
      | cons b1 b2 =>
        simp only [mL_nil, mL_cons, Bool.and_eq_true] at m2
        exact ⟨b1, b2, rfl, m2.1⟩
      | _ => (first | exact absurd m2 Bool.false_ne_true | simp [mL_nil, mL_cons] at m2)
    obtain ⟨b1, b2, rfl, m3⟩ := m3
    have hs2 : starEach [y] X.env = [(false, eval y X.env)] := star_of m3 [] X.env
    refine (pi_range2 (co.gl h1).1 (co.blt _ (by decide +kernel)) pa (by rw [star_of m1 [y] X.env, hs2]) hs2).imp fun σ H Rr ⟨ρ, μ, P, as, w, ro, f⟩ => ?_
    simp only [evI] at f
    refine ⟨ρ, μ, P, as, w, ro, ?_⟩
    have f' := Fin.bind f
    cases q0 : evL R γ (.cons a (.cons b1 b2)) ρ μ with
    | ok xs μ1 =>
      rw [q0] at f'
      intro H1 as1 e1 w1 vs vos
      obtain ⟨_, _, f1⟩ := f' H1 as1 e1 w1
      have hl := len_evL h2 q0
      split at f1
      · rename_i ds hds
        have t := datas_data hds vos
        obtain ⟨z, hz, q⟩ := Fin.of f1
        have lv := len_vls vos
        rw [hl] at lv
        have ld := t.length
        rw [lv] at ld
        match ds, ld, t, hz with
        | [d, d2], _, t, hz =>
          cases d with
          | int i =>
            cases d2 with
            | int j =>
              simp only [rngF] at hz
              split at hz
              · rename_i hj
                cases hz
                cases t with
                | cons g1 g2 =>
                  cases g1
                  cases g2 with
                  | cons g2 g3 =>
                    cases g2
                    cases g3
                    exact ⟨i, j, rfl, hj, q H1 as1 Ex.refl w1 _ wk_rng⟩
              · cases hz
            | _ => simp [rngF] at hz
          | _ => simp [rngF] at hz
      · exact f1.elim
    | exc cc μ1 => rw [q0] at f'; exact f'
    | bad => rw [q0] at f'; exact f'
  | [y, y3], m2 =>
    have m3 : ∃ b1 b2 b3, b = .cons b1 (.cons b2 b3) ∧ mat c b1 y = true ∧ mat c b2 y3 = true := by
      cases b with
      | cons b1 b2 =>
        simp only [mL_nil, mL_cons, Bool.and_eq_true] at m2
        obtain ⟨n1, n2⟩ := m2
        cases b2 with
        | cons b2 b3 =>
          simp only [mL_nil, mL_cons, Bool.and_eq_true] at n2
          exact ⟨b1, b2, b3, rfl, n1, n2.1⟩
        | _ => (first | exact absurd n2 Bool.false_ne_true | simp [mL_nil, mL_cons] at n2)
      | _ => (first | exact absurd m2 Bool.false_ne_true | simp [mL_nil, mL_cons] at m2)
    obtain ⟨b1, b2, b3, rfl, m3, m4⟩ := m3
    have hs3 : starEach [y3] X.env = [(false, eval y3 X.env)] := star_of m4 [] X.env
    have hs2 : starEach [y, y3] X.env = [(false, eval y X.env), (false, eval y3 X.env)] := by rw [star_of m3 [y3] X.env, hs3]
    refine (pi_range3 (co.gl h1).1 (co.blt _ (by decide +kernel)) pa (star_of m1 [y, y3] X.env) (by rw [hs2] <;> rfl)).imp fun σ H Rr ⟨ρ, μ, P, as, w, ro, f⟩ => ?_
    simp only [evI] at f
    refine ⟨ρ, μ, P, as, w, ro, ?_⟩
    have f' := Fin.bind f
    cases q0 : evL R γ (.cons a (.cons b1 (.cons b2 b3))) ρ μ with
    | ok xs μ1 =>
      rw [q0] at f'
      intro H1 as1 e1 w1 vs vos
      obtain ⟨_, _, f1⟩ := f' H1 as1 e1 w1
      have hl := len_evL h2 q0
      split at f1
      · rename_i ds hds
        have t := datas_data hds vos
        obtain ⟨z, hz, q⟩ := Fin.of f1
        have lv := len_vls vos
        rw [hl] at lv
        have ld := t.length
        rw [lv] at ld
        match ds, ld, t, hz with
        | [d, d2, d3], _, t, hz =>
          cases d with
          | int i =>
            cases d2 with
            | int j =>
              cases d3 with
              | int k =>
                simp only [rngF] at hz
                split at hz
                · rename_i hj
                  cases hz
                  cases t with
                  | cons g1 g2 =>
                    cases g1
                    cases g2 with
                    | cons g2 g3 =>
                      cases g2
                      cases g3 with
                      | cons g3 g4 =>
                        cases g3
                        cases g4
                        exact ⟨i, j, k, (Builtin.Range.rangeSize i j k).toNat, rfl, ⟨hj.1, hj.2.1, hj.2.2.1, (Int.toNat_of_nonneg hj.2.2.2).symm⟩, q H1 as1 Ex.refl w1 _ wk_rngC⟩
                · cases hz
              | _ => simp [rngF] at hz
            | _ => simp [rngF] at hz
          | _ => simp [rngF] at hz
      · exact f1.elim
    | exc cc μ1 => rw [q0] at f'; exact f'
    | bad => rw [q0] at f'; exact f'
  | y :: y2 :: y3 :: r, m2 => exact absurd hr1 (by simp)
theorem i_zip {a b : E} {tg e : Expr} (ha : ∀ l, mat c a l = true → PE X l (rE X W γ R a)) (hb : ∀ l, mat c b l = true → PE X l (rE X W γ R b)) (ht : isTupE tg = true) (h : matZ c (.zip a b) e = true) : PI X tg e (rI' X W γ R (.zip a b)) := by
  have hh : ∃ x y p pos, e = .Call (.Name "zip" p) [x, y] [] pos ∧ glB c "zip" = true ∧ mat c a x = true ∧ mat c b y = true := by
    simp only [matZ] at h
    split at h
    · simp only [Bool.and_eq_true, decide_eq_true_eq] at h
      obtain ⟨⟨⟨rfl, h1⟩, h2⟩, h3⟩ := h
      exact ⟨_, _, _, _, rfl, h1, h2, h3⟩
    · cases h
  obtain ⟨x, y, p, pos, rfl, h1, h2, h3⟩ := hh
  cases tg with
  | Tuple elts kk tpos =>
    have s2 : starEach [y] X.env = [(false, eval y X.env)] := star_of h3 [] X.env
    refine (RZ.pi_zipA (co.gl h1).1 (co.blt _ (by decide +kernel)) (pa_cons (ha x h2) (pa_cons (hb y h3) pa_nil s2) (star_of h2 [y] X.env)) (star_of h2 [y] X.env) (by rw [s2]; rfl)).imp fun σ H Rr ⟨ρ, μ, P, as, w, ro, f⟩ => ?_
    simp only [evI] at f
    refine ⟨ρ, μ, P, as, w, ro, (Fin.bind f).mono fun x1 μ1 H1 as1 e1 ⟨_, w1, f1⟩ v vo => ⟨ρ, μ1, P, as1, w1, ro.ex e1, (Fin.bind f1).mono fun y1 μ2 H2 as2 e2 ⟨_, w2, f2⟩ v2 vo2 => ?_⟩⟩
    cases x1 with
    | dt d1 =>
      cases d1 with
      | tuple ds =>
        cases y1 with
        | dt d2 =>
          cases d2 with
          | tuple es =>
            cases (show Dm _ H2 v (.tuple ds) from vo.ex e2) with
            | tup g1 g2 g3 =>
              cases (show Dm _ H2 v2 (.tuple es) from vo2) with
              | tup k1 k2 k3 => exact ⟨_, _, _, _, rfl, .inr ⟨.of g1, .of k1, f2 H2 as2 Ex.refl w2 _ (wk_zip w2 g1 g2 g3 k1 k2 k3)⟩⟩
          | _ => exact f2.elim
        | _ => exact f2.elim
      | _ => exact f2.elim
    | _ => exact f2.elim
  | _ => cases ht
end
end TL
/-! T12: targets, comprehensions -/
namespace TL
open PySem PySem.Spec L2
set_option autoImplicit false
/-! ### targets -/
def gOf (K : PySem.W.Frag) : List Nat → TG
  | [i] => gName i
  | [i, j] => gTup K 2 (gCons (gName i) (gCons (gName j) gNil))
  | [i, j, l] => gTup K 3 (gCons (gName i) (gCons (gName j) (gCons (gName l) gNil)))
  | _ => fun _ _ _ _ => False
theorem pg_of {X : Cx} {c : MC} {W : WX} {γ : Str → Option D} {R : Str → Option (List Vl → Mu → Rs Vl)} {k : Nat} (co : Co X c W γ R k) {ts : List Nat} {tg : Expr} (h : matT c ts tg = true) : PG X tg (gOf X.K ts) := by
  unfold matT at h
  split at h
  · obtain ⟨h1, h2, h3⟩ := co.loc h
    exact pg_name co.nd h1 h2 h3
  · simp only [Bool.and_eq_true, decide_eq_true_eq] at h
    obtain ⟨a1, a2, a3⟩ := co.loc h.1.1
    obtain ⟨b1, b2, b3⟩ := co.loc h.1.2
    exact pg_tup co.calm (pgs_cons (pg_name co.nd a1 a2 a3) (pgs_cons (pg_name co.nd b1 b2 b3) pgs_nil))
  · simp only [Bool.and_eq_true, decide_eq_true_eq] at h
    obtain ⟨a1, a2, a3⟩ := co.loc h.1.1.1.1.1
    obtain ⟨b1, b2, b3⟩ := co.loc h.1.1.1.1.2
    obtain ⟨c1, c2, c3⟩ := co.loc h.1.1.1.2
    exact pg_tup co.calm (pgs_cons (pg_name co.nd a1 a2 a3) (pgs_cons (pg_name co.nd b1 b2 b3) (pgs_cons (pg_name co.nd c1 c2 c3) pgs_nil)))
  · cases h
/-- three names get a list's items -/
def gOfL (K : PySem.W.Frag) : List Nat → TG
  | [i, j, l] => gLst K 3 (gCons (gName i) (gCons (gName j) (gCons (gName l) gNil)))
  | _ => fun _ _ _ _ => False
theorem pg_ofL {X : Cx} {c : MC} {W : WX} {γ : Str → Option D} {R : Str → Option (List Vl → Mu → Rs Vl)} {k : Nat} (co : Co X c W γ R k) {ts : List Nat} {tg : Expr} (h : matT c ts tg = true) (h3 : ts.length = 3) : PG X tg (gOfL X.K ts) := by
  unfold matT at h
  split at h
  · simp at h3
  · simp at h3
  · simp only [Bool.and_eq_true, decide_eq_true_eq] at h
    obtain ⟨a1, a2, a3⟩ := co.loc h.1.1.1.1.1
    obtain ⟨b1, b2, b3⟩ := co.loc h.1.1.1.1.2
    obtain ⟨c1, c2, c3⟩ := co.loc h.1.1.1.2
    exact pg_lst co.calm (pgs_cons (pg_name co.nd a1 a2 a3) (pgs_cons (pg_name co.nd b1 b2 b3) (pgs_cons (pg_name co.nd c1 c2 c3) pgs_nil)))
  · cases h
/-- the targets' places stand, all unlike -/
def tgOk : List Nat → Bool
  | [_] => true
  | [i, j] => decide (i ≠ j)
  | [i, j, l] => decide (i ≠ j) && decide (i ≠ l) && decide (j ≠ l)
  | _ => false
theorem tgOk_of {c : MC} {ts : List Nat} {tg : Expr} (h : matT c ts tg = true) : tgOk ts = true := by
  unfold matT at h
  split at h
  · rfl
  · simp only [Bool.and_eq_true, decide_eq_true_eq] at h
    simp [tgOk, h.2]
  · simp only [Bool.and_eq_true, decide_eq_true_eq] at h
    simp [tgOk, h.2, h.1.1.2, h.1.2]
  · cases h
/-- all slots but some -/
def RoBut (K : PySem.W.Frag) (P : Addr → Prop) (H : Hp) (as : List Addr) (μ : Mu) (ts : List Nat) (σ : L2.St) (ρ : Ro) : Prop :=
  ρ.length = σ.length ∧ (∀ (i : Nat) (x : Vl), i ∉ ts → ρ[i]? = some (some x) → ∃ v, σ[i]? = some (some v) ∧ SlOk K P H as μ v x) ∧ TbOk K H
section
variable {K : PySem.W.Frag} {P : Addr → Prop} {H : Hp} {as : List Addr} {μ : Mu} {σ : L2.St} {ρ : Ro}
theorem RoOk.but (h : RoOk K P H as μ σ ρ) (ts : List Nat) : RoBut K P H as μ ts σ ρ := ⟨h.1, fun i x _ e => h.2.1 i x e, h.2.2⟩
theorem RoBut.set {ts : List Nat} {i : Nat} {v : V} {x : Vl} (h : RoBut K P H as μ (i :: ts) σ ρ) (hv : SlOk K P H as μ v x) : RoBut K P H as μ ts (σ.set i (some v)) (ρ.set i (some x)) := by
  refine ⟨by rw [List.length_set, List.length_set]; exact h.1, fun j y hj e => ?_, h.2.2⟩
  by_cases q : i = j
  · subst q
    by_cases z : i < ρ.length
    · rw [List.getElem?_set_self z] at e
      cases e
      exact ⟨v, List.getElem?_set_self (by rw [← h.1]; exact z), hv⟩
    · rw [List.getElem?_eq_none (by simpa using z)] at e; cases e
  · rw [List.getElem?_set_ne q] at e ⊢
    refine h.2.1 j y ?_ e
    simp only [List.mem_cons, not_or]
    exact ⟨fun z => q z.symm, hj⟩
theorem RoBut.nil (h : RoBut K P H as μ [] σ ρ) : RoOk K P H as μ σ ρ := ⟨h.1, fun i x e => h.2.1 i x (by simp) e, h.2.2⟩
theorem RoBut.perm {ts ts' : List Nat} (hs : ∀ i, i ∈ ts → i ∈ ts') (h : RoBut K P H as μ ts σ ρ) : RoBut K P H as μ ts' σ ρ := ⟨h.1, fun i x hi e => h.2.1 i x (fun z => hi (hs i z)) e, h.2.2⟩
theorem DmAll.two {M : Addr → Prop} {vs : List V} {ds : List D} (h : DmAll M H vs ds) (hl : ds.length = 2) : ∃ v1 v2 x1 x2, vs = [v1, v2] ∧ ds = [x1, x2] ∧ Dm M H v1 x1 ∧ Dm M H v2 x2 := by
  cases h with
  | nil => cases hl
  | cons d1 t => cases t with
    | nil => cases hl
    | cons d2 t => cases t with
      | nil => exact ⟨_, _, _, _, rfl, rfl, d1, d2⟩
      | cons _ _ => simp at hl
theorem DmAll.three {M : Addr → Prop} {vs : List V} {ds : List D} (h : DmAll M H vs ds) (hl : ds.length = 3) : ∃ v1 v2 v3 x1 x2 x3, vs = [v1, v2, v3] ∧ ds = [x1, x2, x3] ∧ Dm M H v1 x1 ∧ Dm M H v2 x2 ∧ Dm M H v3 x3 := by
  cases h with
  | nil => cases hl
  | cons d1 t => cases t with
    | nil => cases hl
    | cons d2 t => cases t with
      | nil => simp at hl
      | cons d3 t => cases t with
        | nil => exact ⟨_, _, _, _, _, _, rfl, rfl, d1, d2, d3⟩
        | cons _ _ => simp at hl
/-- the targets get an item -/
theorem g_run {ts : List Nat} {x : V} {d : D} {ρ1 : Ro} {Q : L2.St → Hp → Prop} (ht : tgOk ts = true) (ro : RoBut K P H as μ ts σ ρ) (dm : Dm (Mf P as μ) H x d) (hb : bindT ts d ρ = some ρ1)
    (q : ∀ σ1, RoOk K P H as μ σ1 ρ1 → (∀ j, j ∉ ts → σ1[j]? = σ[j]?) → σ1.length = σ.length → Q σ1 H) : gOf K ts x σ H Q := by
  match ts, ht, ro, hb, q with
  | [i], _, ro, hb, q =>
    simp only [bindT] at hb
    cases hb
    refine q _ (RoBut.nil (ro.set (show SlOk K P H as μ x (.dt d) from dm))) (fun j hj => ?_) (by rw [List.length_set])
    rw [List.getElem?_set_ne (fun z => hj (by simp [z]))]
  | [i, j], ht, ro, hb, q =>
    cases dm with
    | tup e n t =>
      simp only [bindT] at hb
      split at hb
      · rename_i hl
        cases hb
        obtain ⟨v1, v2, x1, x2, rfl, rfl, d1, d2⟩ := t.two hl
        · refine ⟨_, _, rfl, .of e, rfl, _, _, rfl, _, _, rfl, rfl, ?_⟩
          refine q _ ?_ (fun l hl => ?_) (by rw [List.length_set, List.length_set])
          · exact RoBut.nil ((ro.set (show SlOk K P H as μ _ (.dt _) from d1)).set (show SlOk K P H as μ _ (.dt _) from d2))
          · simp only [List.mem_cons, List.not_mem_nil, or_false, not_or] at hl
            rw [List.getElem?_set_ne (Ne.symm hl.2), List.getElem?_set_ne (Ne.symm hl.1)]
      · cases hb
    | _ => simp [bindT] at hb
  | [i, j, m], ht, ro, hb, q =>
    cases dm with
    | tup e n t =>
      simp only [bindT] at hb
      split at hb
      · rename_i hl
        cases hb
        obtain ⟨v1, v2, v3, x1, x2, x3, rfl, rfl, d1, d2, d3⟩ := t.three hl
        · refine ⟨_, _, rfl, .of e, rfl, _, _, rfl, _, _, rfl, _, _, rfl, rfl, ?_⟩
          refine q _ ?_ (fun l hl => ?_) (by rw [List.length_set, List.length_set, List.length_set])
          · exact RoBut.nil (((ro.set (show SlOk K P H as μ _ (.dt _) from d1)).set (show SlOk K P H as μ _ (.dt _) from d2)).set (show SlOk K P H as μ _ (.dt _) from d3))
          · simp only [List.mem_cons, List.not_mem_nil, or_false, not_or] at hl
            rw [List.getElem?_set_ne (Ne.symm hl.2.2), List.getElem?_set_ne (Ne.symm hl.2.1), List.getElem?_set_ne (Ne.symm hl.1)]
      · cases hb
    | _ => simp [bindT] at hb
theorem g_runL {ts : List Nat} {x : V} {ds : List D} {ρ1 : Ro} {Q : L2.St → Hp → Prop} (h3 : ts.length = 3) (ht : tgOk ts = true) (ro : RoBut K P H as μ ts σ ρ) (dm : Dm (Mf P as μ) H x (.list ds)) (hb : bindT ts (.tuple ds) ρ = some ρ1)
    (q : ∀ σ1, RoOk K P H as μ σ1 ρ1 → Q σ1 H) : gOfL K ts x σ H Q := by
  match ts, h3, ht, ro, hb with
  | [i, j, m], _, ht, ro, hb =>
    cases dm with
    | lst e n t =>
      simp only [bindT] at hb
      split at hb
      · rename_i hl
        cases hb
        obtain ⟨v1, v2, v3, x1, x2, x3, rfl, rfl, d1, d2, d3⟩ := t.three hl
        · refine ⟨_, _, rfl, .of e, rfl, _, _, rfl, _, _, rfl, _, _, rfl, rfl, ?_⟩
          exact q _ (RoBut.nil (((ro.set (show SlOk K P H as μ _ (.dt _) from d1)).set (show SlOk K P H as μ _ (.dt _) from d2)).set (show SlOk K P H as μ _ (.dt _) from d3)))
      · cases hb
end
/-! ### wiped slots -/
theorem wipe_in {σ : L2.St} : ∀ {ts : List Nat} {j : Nat}, j ∈ ts → j < σ.length → (wipe σ ts)[j]? = some none
  | t :: ts, j, h, hl => by
    unfold wipe
    by_cases e : t = j
    · subst e
      rw [List.getElem?_set_self (by rw [wipe_length]; exact hl)]
    · rw [List.getElem?_set_ne e]
      refine wipe_in ?_ hl
      rcases List.mem_cons.mp h with z | z
      · exact absurd z.symm e
      · exact z
theorem wipe_ext {σ σ2 : L2.St} {ts : List Nat} (h : ∀ j, j ∉ ts → σ2[j]? = σ[j]?) (hl : σ2.length = σ.length) : wipe σ2 ts = wipe σ ts := by
  apply List.ext_getElem?
  intro j
  by_cases hj : j ∈ ts
  · by_cases hlt : j < σ.length
    · rw [wipe_in hj hlt, wipe_in hj (by rw [hl]; exact hlt)]
    · rw [List.getElem?_eq_none (by rw [wipe_length]; omega), List.getElem?_eq_none (by rw [wipe_length]; omega)]
  · rw [wipe_out hj, wipe_out hj, h j hj]
section
variable {K : PySem.W.Frag} {Z P P' : Addr → Prop} {H H1 : Hp} {as as1 : List Addr} {μ μ1 : Mu} {σ : L2.St} {ρ : Ro} {D0 : Addr}
/-- the keeper's own list is changed -/
theorem ExZ.own {o : HO} (hz : ∀ a, Z a → P a) (h : Z D0) (hl : ∀ u, H D0 = some u → ∃ vs, u = .lst vs) : ExZ Z P H as μ (upd H D0 o) as μ where
  zp := hz
  pre := List.prefix_refl as
  dom := fun a n => by
    by_cases e : a = D0
    · subst e; rw [upd_same]; simp
    · rw [upd_ne e]; exact n
  tab := fun a t => tab_put hl t
  keep := fun a u e _ _ nz => by
    rw [upd_ne]
    · exact e
    · rintro rfl
      exact nz h
  old := fun n e _ h => ⟨e, h⟩
  new := fun n q hn e => by
    have := (List.getElem?_eq_some_iff.mp e).1
    omega
theorem Wd.own (w : Wd P H as μ) {o : HO} (h : P D0) (hl : ∀ u, H D0 = some u → ∃ vs, u = .lst vs) : Wd P (upd H D0 o) as μ where
  len := w.len
  obj := fun n e he => by
    obtain ⟨p, h1, h2, h3⟩ := w.obj n e he
    refine ⟨p, h1, h2, ?_⟩
    have hp : p ≠ D0 := fun z => h2 (z ▸ h)
    cases e with
    | lst xs =>
      obtain ⟨vs, e1, q⟩ := h3
      exact ⟨vs, by rw [upd_ne hp]; exact e1, q.ex (ExZ.own (Z := P) (fun _ h => h) h hl)⟩
    | hds ns =>
      obtain ⟨ps, e1, q⟩ := h3
      exact ⟨ps, by rw [upd_ne hp]; exact e1, q⟩
  pt := fun a ha => by
    by_cases e : a = D0
    · subst e; rw [upd_same]; simp
    · rw [upd_ne e]; exact w.pt a ha
  inj := w.inj
/-- fewer keepers -/
theorem Wd.less (w : Wd P H as μ) (h : ∀ a, P' a → P a) : Wd P' H as μ where
  len := w.len
  obj := fun n e he => by
    obtain ⟨p, h1, h2, h3⟩ := w.obj n e he
    refine ⟨p, h1, fun z => h2 (h p z), ?_⟩
    cases e with
    | lst xs =>
      obtain ⟨vs, e1, q⟩ := h3
      exact ⟨vs, e1, q.to (fun _ _ e _ => e) fun a z => by
        rcases z with z | z
        · exact .inl (.inl (h a z))
        · exact .inl (.inr z)⟩
    | hds ns => exact h3
  pt := fun a ha => w.pt a (h a ha)
  inj := w.inj
/-- one keeper more, of a new thing -/
theorem Wd.more (w : Wd P H as μ) {o : HO} (hD : H D0 = none) : Wd (fun a => P a ∨ a = D0) (upd H D0 o) as μ where
  len := w.len
  obj := fun n e he => by
    obtain ⟨p, h1, h2, h3⟩ := w.obj n e he
    cases e with
    | lst xs =>
      obtain ⟨vs, e1, q⟩ := h3
      have hp : p ≠ D0 := ne_of_none e1 hD
      refine ⟨p, h1, fun z => z.elim h2 hp, vs, by rw [upd_ne hp]; exact e1, ?_⟩
      refine q.to (fun a o e _ => by rw [upd_ne (ne_of_none e hD)]; exact e) fun a z => ?_
      rcases z with (z | z) | z
      · exact .inl (.inl z)
      · rw [z]; exact .inr hD
      · exact .inl (.inr z)
    | hds ns =>
      obtain ⟨ps, e1, q⟩ := h3
      have hp : p ≠ D0 := ne_of_none e1 hD
      exact ⟨p, h1, fun z => z.elim h2 hp, ps, by rw [upd_ne hp]; exact e1, q⟩
  pt := fun a ha => by
    by_cases e : a = D0
    · subst e; rw [upd_same]; simp
    · rw [upd_ne e]; exact w.pt a (ha.resolve_right e)
  inj := w.inj
theorem ExZ.fresh (hD : H D0 = none) {o : HO} : ExZ (fun a => a = D0) (fun a => P a ∨ a = D0) H as μ (upd H D0 o) as μ := ExZ.own (fun a h => .inr h) (Eq.refl D0) fun u z => by rw [hD] at z; cases z
end
section
variable {X : Cx} {c : MC} {W : WX} {γ : Str → Option D} {R : Str → Option (List Vl → Mu → Rs Vl)} {k : Nat} (co : Co X c W γ R k)
include co
/-- no error is wished for within a block -/
abbrev W0 : WX := fun _ _ _ _ => False
omit co in
theorem isl {H : Hp} {D0 : Addr} {vs : List V} (h : H D0 = some (.lst vs)) : ∀ u, H D0 = some u → ∃ vs, u = .lst vs := fun u e => by
  rw [h] at e
  exact ⟨vs, (Option.some.inj e).symm⟩
/-- the turns of a comprehension -/
theorem lc_turns {ts : List Nat} {cond : Option (Ro → Mu → Rs Bool)} {fe : Ro → Mu → Rs Vl} {tt : TT} {te : TE} {ρ : Ro} {P : Addr → Prop} {σ : L2.St} {H1 : Hp} {as1 : List Addr} {μ1 : Mu} {J : It} {ds : List D} {Q : VK} {H0 : Hp}
    (ht : tgOk ts = true) (w1 : Wd P H1 as1 μ1) (ro : RoOk X.K P H1 as1 μ1 σ ρ) (wk : Wk J ds P H1 as1 μ1) (hl : ds.length ≤ sizeLine) (h0 : ∀ a, H0 a ≠ none → H1 a ≠ none)
    (htt : ∀ σ H Q, (match cond with | none => Q true H | some g => tXB X.mg W0 X.K g σ H Q) → tt σ H Q) (hte : ∀ σ H Q, tX X.mg W0 X.K fe σ H Q → te σ H Q)
    (f : Fin X.mg W P σ H1 as1 μ1 ((lcL ts (cond.map fun g ρ μ => (g ρ μ).q) (fun ρ μ => (fe ρ μ).q) ρ ds μ1).bind fun xs μ2 => .ok (.fr xs) μ2) fun x μ' H' as' => ∀ v, VlOk P H' as' μ' X.K H0 v x → Q v H')
    (D0 : Addr) (hD : H1 D0 = none) : ∃ Wi : Nat → Nat → Hp → Prop, (∃ m, Wi 0 m (upd H1 D0 (.lst []))) ∧ ∀ i m H, Wi i m H →
      (J.stop i H ∧ Q (.ref D0) H) ∨ (J.go i H ∧ ∃ Nx : Hp → Prop, (∀ H', Nx H' → ∃ m', m' < m ∧ Wi (i + 1) m' H') ∧ ∀ x H', J.yld i H x H' → gOf X.K ts x (wipe σ ts) H' fun σ2 H2 => wipe σ2 ts = wipe σ ts ∧ tt σ2 H2 fun b H3 =>
        if b = true then te σ2 H3 fun y H4 => ∃ acc, H4 D0 = some (.lst acc) ∧ acc.length < sizeLine ∧ Nx (upd H4 D0 (.lst (acc ++ [y]))) else Nx H3) := by
  let P' : Addr → Prop := fun a => P a ∨ a = D0
  let Z : Addr → Prop := fun a => a = D0
  let C := cond.map fun (g : Ro → Mu → Rs Bool) ρ μ => (g ρ μ).q
  let FE := fun (ρ : Ro) (μ : Mu) => (fe ρ μ).q
  have hp' : ∀ a, P' a → P a ∨ H1 a = none := fun a h => h.elim .inl fun e => by rw [e]; exact .inr hD
  let Inv' : Nat → Hp → Prop := fun i H => ∃ as' μ' acc accV, ExZ Z P' H1 as1 μ1 H as' μ' ∧ Wd P' H as' μ' ∧ H D0 = some (.lst accV) ∧ DmAll (Mf P' as' μ') H accV acc ∧ acc.length ≤ i ∧
    lcL ts C FE ρ ds μ1 = (lcL ts C FE ρ (ds.drop i) μ').bind fun ys μ => .ok (acc ++ ys) μ
  refine ⟨fun i m H => m = ds.length - i ∧ i ≤ ds.length ∧ Inv' i H, ⟨ds.length, by simp, Nat.zero_le _, as1, μ1, [], [], ExZ.fresh hD, w1.more hD, upd_same, .nil, Nat.le_refl _, ?_⟩, ?_⟩
  · rw [List.drop_zero]
    cases lcL ts C FE ρ ds μ1 <;> rfl
  · rintro i m H ⟨rfl, hi, as', μ', acc, accV, ex, wd, hDv, dm, hacc, eq⟩
    by_cases hlt : i < ds.length
    · refine .inr ⟨wk.go Z P' i H as' μ' hp' ex wd hlt, Inv' (i + 1), fun H' p => ⟨ds.length - (i + 1), by omega, rfl, hlt, p⟩, fun x H' hy => ?_⟩
      obtain ⟨d, hd, dmx, exy, wy⟩ := wk.yld Z P' i H as' μ' x H' hp' ex wd hlt hy
      have hdrop : ds.drop i = d :: ds.drop (i + 1) := by
        rw [List.drop_eq_getElem_cons hlt]
        rw [List.getElem?_eq_getElem hlt] at hd
        cases hd
        rfl
      rw [hdrop] at eq
      -- the state at this turn
      have exA : ExZ Z P' H1 as1 μ1 H' as' μ' := ex.trans (exy.more (fun _ h => h.elim) fun a h => .inr h)
      have hD' : H' D0 = some (.lst accV) := exy.keep D0 _ hDv (nt_lst _) (fun ⟨n, e, z1, z2⟩ => by
        obtain ⟨p, g1, g2, _⟩ := wd.obj n e z2
        rw [z1] at g1
        cases g1
        exact g2 (.inr rfl)) fun h => h.elim
      have dmA : DmAll (Mf P' as' μ') H' accV acc := dm.ex exy
      have nb : lcL ts C FE ρ ds μ1 ≠ .bad := fun z => by
        rw [show lcL ts (cond.map fun g ρ μ => (g ρ μ).q) (fun ρ μ => (fe ρ μ).q) ρ ds μ1 = .bad from z] at f
        exact f
      have nlive : ∀ {H3 : Hp} {as3 : List Addr} {μ3 : Mu}, Wd P' H3 as3 μ3 → ¬ ∃ (n : Nat) (e : Ent), as3[n]? = some D0 ∧ μ3[n]? = some (some e) := fun {H3 as3 μ3} w3 ⟨n, e, z1, z2⟩ => by
        obtain ⟨p, g1, g2, _⟩ := w3.obj n e z2
        rw [z1] at g1
        cases g1
        exact g2 (.inr rfl)
      cases hb : bindT ts d ρ with
      | none =>
        exfalso
        apply nb
        rw [eq]
        simp only [lcL, hb]
        rfl
      | some ρ1 =>
        have roB : RoBut X.K P' H' as' μ' ts (wipe σ ts) ρ := by
          refine ⟨by rw [wipe_length]; exact ro.1, fun j y hj e => ?_, fun c P q => exA.tab _ (ro.2.2 c P q)⟩
          obtain ⟨v, hv, sl⟩ := ro.2.1 j y e
          refine ⟨v, by rw [wipe_out hj]; exact hv, ?_⟩
          cases y with
          | dt dd => exact (show Dm _ _ _ _ from sl).to' (keepP hp' exA) (mfP hp' exA w1)
          | hd n =>
            obtain ⟨p, z1, z2⟩ := sl
            exact ⟨p, pre_get exA.pre z1, z2⟩
          | fr xs => exact sl.elim
          | scr ns =>
            obtain ⟨a, ea, z⟩ := sl
            refine ⟨a, ea, ?_⟩
            rcases z with ⟨o, z1, z2⟩ | z
            · refine .inl ⟨o, keepP hp' exA a _ z1 (nt_frz _ _) z2, fun q => ?_⟩
              rcases mfP hp' exA w1 a q with q | q
              · exact z2 q
              · rw [z1] at q; cases q
            · exact .inr z
        refine g_run ht roB dmx hb fun σ2 ro2 out len2 => ⟨?_, htt _ _ _ ?_⟩
        · have e1 : wipe σ2 ts = wipe (wipe σ ts) ts := wipe_ext out len2
          rw [e1]
          exact wipe_ext (fun j hj => wipe_out hj) (wipe_length σ ts)
        · -- the element
          have elt : ∀ {H3 : Hp} {as3 : List Addr} {μ3 : Mu}, ExZ Z P' H1 as1 μ1 H3 as3 μ3 → Wd P' H3 as3 μ3 → H3 D0 = some (.lst accV) → DmAll (Mf P' as3 μ3) H3 accV acc → RoOk X.K P' H3 as3 μ3 σ2 ρ1 →
              lcL ts C FE ρ ds μ1 = (((FE ρ1 μ3).bind fun x μ2 => match x.data with
                | none => .bad
                | some y => (lcL ts C FE ρ (ds.drop (i + 1)) μ2).bind fun ys μ3 => .ok (y :: ys) μ3).bind fun ys μ => .ok (acc ++ ys) μ) →
              te σ2 H3 fun y H4 => ∃ acc, H4 D0 = some (.lst acc) ∧ acc.length < sizeLine ∧ Inv' (i + 1) (upd H4 D0 (.lst (acc ++ [y]))) := by
            intro H3 as3 μ3 ex3 w3 hD3 dm3 ro3 eq3
            refine hte _ _ _ ⟨ρ1, μ3, P', as3, w3, ro3, ?_⟩
            cases hf : fe ρ1 μ3 with
            | ok y μ4 =>
              intro H4 as4 e4 w4 v vo
              cases hy : y.data with
              | none =>
                exfalso
                apply nb
                rw [eq3, show FE ρ1 μ3 = .ok y μ4 by show (fe ρ1 μ3).q = _; rw [hf]; rfl]
                simp only [Rs.bind, hy]
              | some yd =>
                have hD4 : H4 D0 = some (.lst accV) := e4.keep D0 _ hD3 (nt_lst _) (nlive w3) fun h => h.elim
                refine ⟨accV, hD4, by rw [dm3.length]; omega, as4, μ4, acc ++ [yd], accV ++ [v], ?_, w4.own (.inr rfl) (isl hD4), upd_same, ?_, ?_, ?_⟩
                · exact (ex3.trans (e4.more (fun _ h => h.elim) fun a h => .inr h)).trans (ExZ.own (fun a h => .inr h) rfl (isl hD4))
                · exact ((dm3.ex e4).append (.cons (vo.dm hy) .nil)).ex (ExZ.own (Z := Z) (P := P') (fun a h => .inr h) rfl (isl hD4))
                · rw [List.length_append, List.length_singleton]; omega
                · rw [eq3, show FE ρ1 μ3 = .ok y μ4 by show (fe ρ1 μ3).q = _; rw [hf]; rfl]
                  simp only [Rs.bind, hy]
                  cases lcL ts C FE ρ (ds.drop (i + 1)) μ4 with
                  | ok ys μ5 => simp
                  | exc _ _ => rfl
                  | bad => rfl
            | exc cc μ4 =>
              exfalso
              apply nb
              rw [eq3, show FE ρ1 μ3 = .bad by show (fe ρ1 μ3).q = _; rw [hf]; rfl]
              rfl
            | bad =>
              exfalso
              apply nb
              rw [eq3, show FE ρ1 μ3 = .bad by show (fe ρ1 μ3).q = _; rw [hf]; rfl]
              rfl
          cases hc : cond with
          | none =>
            show (if true = true then _ else _)
            rw [if_pos rfl]
            refine elt exA wy hD' dmA ro2 ?_
            rw [eq]
            simp only [lcL, hb, show C = none by show cond.map _ = none; rw [hc]; rfl]
            rfl
          | some g =>
            show tXB X.mg W0 X.K g σ2 H' _
            refine ⟨ρ1, μ', P', as', wy, ro2, ?_⟩
            have eqC : lcL ts C FE ρ (d :: ds.drop (i + 1)) μ' = ((g ρ1 μ').q).bind fun b μ1 =>
                if b then (FE ρ1 μ1).bind fun x μ2 => match x.data with
                  | none => .bad
                  | some y => (lcL ts C FE ρ (ds.drop (i + 1)) μ2).bind fun ys μ3 => .ok (y :: ys) μ3
                else lcL ts C FE ρ (ds.drop (i + 1)) μ1 := by
              have eC : C = some fun ρ μ => (g ρ μ).q := by show cond.map _ = _; rw [hc]; rfl
              rw [eC]
              simp only [lcL, hb]
              all_goals rfl
            rw [eqC] at eq
            cases hg : g ρ1 μ' with
            | ok b μ3 =>
              intro H3 as3 e3 w3
              rw [show (g ρ1 μ').q = .ok b μ3 by rw [hg]; rfl] at eq
              simp only [Rs.bind] at eq
              have ex3 : ExZ Z P' H1 as1 μ1 H3 as3 μ3 := exA.trans (e3.more (fun _ h => h.elim) fun a h => .inr h)
              have hD3 : H3 D0 = some (.lst accV) := e3.keep D0 _ hD' (nt_lst _) (nlive wy) fun h => h.elim
              cases b with
              | true =>
                rw [if_pos rfl]
                rw [if_pos rfl] at eq
                exact elt ex3 w3 hD3 (dmA.ex e3) (ro2.ex e3) eq
              | false =>
                rw [if_neg Bool.false_ne_true]
                rw [if_neg Bool.false_ne_true] at eq
                exact ⟨as3, μ3, acc, accV, ex3, w3, hD3, dmA.ex e3, by omega, eq⟩
            | exc cc μ3 =>
              exfalso
              apply nb
              rw [eq, show (g ρ1 μ').q = .bad by rw [hg]; rfl]
              rfl
            | bad =>
              exfalso
              apply nb
              rw [eq, show (g ρ1 μ').q = .bad by rw [hg]; rfl]
              rfl
    · have hi' : i = ds.length := by omega
      subst hi'
      refine .inl ⟨wk.stop Z P' _ H as' μ' hp' ex wd (Nat.le_refl _), ?_⟩
      rw [List.drop_length] at eq
      simp only [lcL, Rs.bind, List.append_nil] at eq
      rw [show lcL ts (cond.map fun g ρ μ => (g ρ μ).q) (fun ρ μ => (fe ρ μ).q) ρ ds μ1 = .ok acc μ' from eq] at f
      have exP : Ex P H1 as1 μ1 H as' μ' := ex.less (fun a h => .inl h) (fun _ h => h.elim) fun a h => by
        rw [show a = D0 from h]
        exact .inr hD
      have h0D : H0 D0 = none := by
        cases q : H0 D0 with
        | none => rfl
        | some o => exact absurd hD (h0 D0 (by rw [q]; simp))
      refine f H as' exP (wd.less fun a h => .inl h) _ ⟨D0, accV, rfl, h0D, fun z => w1.pt D0 z hD, hDv, ?_, ?_⟩
      · rintro (z | ⟨n, e, z1, z2⟩)
        · exact w1.pt D0 z hD
        · obtain ⟨p, g1, g2, _⟩ := wd.obj n e z2
          rw [z1] at g1
          cases g1
          exact g2 (.inr rfl)
      · have tr : ∀ {ws : List V} {es : List D}, DmAll (Mf P' as' μ') H ws es → DmAll (fun a => Mf P as' μ' a ∨ a = D0) H ws es := fun t => by
          refine t.to (fun _ _ e _ => e) fun a z => .inl ?_
          rcases z with (z | z) | z
          · exact .inl (.inl z)
          · exact .inr z
          · exact .inl (.inr z)
        refine ⟨tr dm, fun n xs hn => ?_⟩
        obtain ⟨q, h1, _, ws, h2, h3⟩ := wd.obj n _ hn
        exact ⟨q, ws, h1, h2, tr h3⟩
end
section
variable {P : Addr → Prop} {H H1 : Hp} {as as1 : List Addr} {μ μ1 : Mu}
/-- what is changeable in a store grown by a thing -/
theorem mf_push {e0 : Ent} (w : Wd P H as μ) {p : Addr} : ∀ a, Mf P (as ++ [p]) (μ ++ [some e0]) a → Mf P as μ a ∨ a = p := by
    rintro a (h | ⟨n, e, h1, h2⟩)
    · exact .inl (.inl h)
    · by_cases hn : n < as.length
      · rw [List.getElem?_append_left hn] at h1
        rw [List.getElem?_append_left (by rw [← w.len]; exact hn)] at h2
        exact .inl (.inr ⟨n, e, h1, h2⟩)
      · have := (List.getElem?_eq_some_iff.mp h1).1
        rw [List.length_append, List.length_singleton] at this
        have e1 : n = as.length := by omega
        subst e1
        rw [List.getElem?_append_right (Nat.le_refl _), Nat.sub_self] at h1
        cases h1
        exact .inr rfl
/-- the store grows by a thing just made -/
theorem Wd.pushE (w : Wd P H as μ) {p : Addr} {e0 : Ent} (hP : ¬ P p) (hm : ¬ Mf P as μ p) (ho : EnOk P H (as ++ [p]) (μ ++ [some e0]) p e0) (sp : Sep P H as μ p) :
    Wd P H (as ++ [p]) (μ ++ [some e0]) := by
  have mf : ∀ a, Mf P (as ++ [p]) (μ ++ [some e0]) a → Mf P as μ a ∨ a = p := by
    rintro a (h | ⟨n, e, h1, h2⟩)
    · exact .inl (.inl h)
    · by_cases hn : n < as.length
      · rw [List.getElem?_append_left hn] at h1
        rw [List.getElem?_append_left (by rw [← w.len]; exact hn)] at h2
        exact .inl (.inr ⟨n, e, h1, h2⟩)
      · have := (List.getElem?_eq_some_iff.mp h1).1
        rw [List.length_append, List.length_singleton] at this
        have e1 : n = as.length := by omega
        subst e1
        rw [List.getElem?_append_right (Nat.le_refl _), Nat.sub_self] at h1
        cases h1
        exact .inr rfl
  have tr : ∀ {ws : List V} {es : List TL.D}, DmAll (fun a => Mf P as μ a ∨ a = p) H ws es → DmAll (Mf P (as ++ [p]) (μ ++ [some e0])) H ws es := fun t => t.to (fun _ _ e _ => e) fun a z => .inl (mf a z)
  refine ⟨by simp [w.len], fun n e he => ?_, w.pt, fun n m q e f hn hm' he hf => ?_⟩
  · by_cases hn : n < as.length
    · rw [List.getElem?_append_left (by rw [← w.len]; exact hn)] at he
      cases e with
      | lst ys =>
        obtain ⟨q, ws, h1, h2, h3⟩ := sp n ys he
        obtain ⟨q', g1, g2, _⟩ := w.obj n _ he
        rw [h1] at g1
        cases g1
        exact ⟨q, by rw [List.getElem?_append_left hn]; exact h1, g2, ws, h2, tr h3⟩
      | hds ns =>
        obtain ⟨q, g1, g2, ps, g3, g4⟩ := w.obj n _ he
        refine ⟨q, by rw [List.getElem?_append_left hn]; exact g1, g2, ps, g3, g4.pre (List.prefix_append _ _) fun m e' hm' he' => ?_⟩
        rw [List.getElem?_append_left (by rw [← w.len]; exact hm')] at he'
        exact ⟨e', he'⟩
    · have := (List.getElem?_eq_some_iff.mp he).1
      rw [List.length_append, List.length_singleton, ← w.len] at this
      have e1 : n = as.length := by omega
      subst e1
      rw [w.len, List.getElem?_append_right (Nat.le_refl _), Nat.sub_self] at he
      cases he
      exact ⟨p, by rw [List.getElem?_append_right (Nat.le_refl _), Nat.sub_self]; rfl, hP, ho⟩
  · have live : ∀ (n : Nat) (e : Ent), (as ++ [p])[n]? = some q → (μ ++ [some e0])[n]? = some (some e) → n < as.length → as[n]? = some q ∧ μ[n]? = some (some e) := fun n e h1 h2 hl => by
      rw [List.getElem?_append_left hl] at h1
      rw [List.getElem?_append_left (by rw [← w.len]; exact hl)] at h2
      exact ⟨h1, h2⟩
    have last : ∀ n : Nat, (as ++ [p])[n]? = some q → ¬ n < as.length → n = as.length ∧ q = p := fun n h1 hl => by
      have := (List.getElem?_eq_some_iff.mp h1).1
      rw [List.length_append, List.length_singleton] at this
      have e1 : n = as.length := by omega
      subst e1
      rw [List.getElem?_append_right (Nat.le_refl _), Nat.sub_self] at h1
      cases h1
      exact ⟨rfl, rfl⟩
    by_cases hl : n < as.length
    · obtain ⟨a1, a2⟩ := live n e hn he hl
      by_cases hl' : m < as.length
      · obtain ⟨b1, b2⟩ := live m f hm' hf hl'
        exact w.inj n m q e f a1 b1 a2 b2
      · obtain ⟨b1, rfl⟩ := last m hm' hl'
        exact (hm (.inr ⟨n, e, a1, a2⟩)).elim
    · obtain ⟨a1, rfl⟩ := last n hn hl
      by_cases hl' : m < as.length
      · obtain ⟨b1, b2⟩ := live m f hm' hf hl'
        exact (hm (.inr ⟨m, f, b1, b2⟩)).elim
      · obtain ⟨b1, _⟩ := last m hm' hl'
        omega
/-- the store grows by a list just made -/
theorem Wd.push (w : Wd P H as μ) {p : Addr} {vs : List V} {xs : List TL.D} (hP : ¬ P p) (hp : H p = some (.lst vs)) (hm : ¬ Mf P as μ p) (t : DmAll (fun a => Mf P as μ a ∨ a = p) H vs xs) (sp : Sep P H as μ p) :
    Wd P H (as ++ [p]) (μ ++ [some (.lst xs)]) := w.pushE hP hm ⟨vs, hp, t.to (fun _ _ e _ => e) fun a z => .inl (mf_push w a z)⟩ sp
theorem ExZ.push {Z : Addr → Prop} {e : Option Ent} (x : ExZ Z P H as μ H1 as1 μ1) (w : Wd P H1 as1 μ1) {p : Addr} (h0 : H p = none) (hP : ¬ P p) : ExZ Z P H as μ H1 (as1 ++ [p]) (μ1 ++ [e]) where
  zp := x.zp
  pre := x.pre.trans (List.prefix_append _ _)
  dom := x.dom
  keep := x.keep
  tab := x.tab
  old := fun n e' hn he => by
    have : n < μ1.length := by rw [← w.len]; exact Nat.lt_of_lt_of_le hn x.pre.length_le
    rw [List.getElem?_append_left this] at he
    exact x.old n e' hn he
  new := fun n q hn hq => by
    by_cases hl : n < as1.length
    · rw [List.getElem?_append_left hl] at hq
      exact x.new n q hn hq
    · have := (List.getElem?_eq_some_iff.mp hq).1
      rw [List.length_append, List.length_singleton] at this
      have e1 : n = as1.length := by omega
      subst e1
      rw [List.getElem?_append_right (Nat.le_refl _), Nat.sub_self] at hq
      cases hq
      exact ⟨h0, hP⟩
end
section
variable {X : Cx} {c : MC} {W : WX} {γ : Str → Option D} {R : Str → Option (List Vl → Mu → Rs Vl)} {k : Nat} (co : Co X c W γ R k)
include co
omit co in
theorem rep_push (k : Nat) : List.replicate (k + 1) (some (Ent.lst [])) = List.replicate k (some (Ent.lst [])) ++ [some (.lst [])] := List.replicate_succ'
/-- the turns of a row of empty lists -/
theorem lol_turns {j : Nat} {ρ : Ro} {P : Addr → Prop} {σ : L2.St} {H1 : Hp} {as1 : List Addr} {μ1 : Mu} {J : It} {ds : List D} {Q : VK}
    (w1 : Wd P H1 as1 μ1) (ro : RoOk X.K P H1 as1 μ1 σ ρ) (wk : Wk J ds P H1 as1 μ1) (hl : ds.length ≤ sizeLine)
    (f : ∀ H' as', Ex P H1 as1 μ1 H' as' (lolM μ1 ds.length) → Wd P H' as' (lolM μ1 ds.length) → ∀ v, (∃ p, as'[μ1.length + ds.length]? = some p ∧ v = .ref p) → Q v H')
    (D0 : Addr) (hD : H1 D0 = none) : ∃ Wi : Nat → Nat → Hp → Prop, (∃ m, Wi 0 m (upd H1 D0 (.lst []))) ∧ ∀ i m H, Wi i m H →
      (J.stop i H ∧ Q (.ref D0) H) ∨ (J.go i H ∧ ∃ Nx : Hp → Prop, (∀ H', Nx H' → ∃ m', m' < m ∧ Wi (i + 1) m' H') ∧ ∀ x H', J.yld i H x H' → gOf X.K [j] x (wipe σ [j]) H' fun σ2 H2 => wipe σ2 [j] = wipe σ [j] ∧ tYes σ2 H2 fun b H3 =>
        if b = true then tLst tNil σ2 H3 fun y H4 => ∃ acc, H4 D0 = some (.lst acc) ∧ acc.length < sizeLine ∧ Nx (upd H4 D0 (.lst (acc ++ [y]))) else Nx H3) := by
  let P' : Addr → Prop := fun a => P a ∨ a = D0
  let Z : Addr → Prop := fun a => a = D0
  have hp' : ∀ a, P' a → P a ∨ H1 a = none := fun a h => h.elim .inl fun e => by rw [e]; exact .inr hD
  let Mi : Nat → Mu := fun i => μ1 ++ List.replicate i (some (.lst []))
  let Inv' : Nat → Hp → Prop := fun i H => ∃ qs : List Addr, qs.length = i ∧ ExZ Z P' H1 as1 μ1 H (as1 ++ qs) (Mi i) ∧ Wd P' H (as1 ++ qs) (Mi i) ∧ H D0 = some (.lst (qs.map V.ref))
  refine ⟨fun i m H => m = ds.length - i ∧ i ≤ ds.length ∧ Inv' i H, ⟨ds.length, by simp, Nat.zero_le _, [], rfl, ?_, ?_, upd_same⟩, ?_⟩
  · show ExZ Z P' H1 as1 μ1 _ (as1 ++ []) (μ1 ++ [])
    rw [List.append_nil, List.append_nil]
    exact ExZ.fresh hD
  · show Wd P' _ (as1 ++ []) (μ1 ++ [])
    rw [List.append_nil, List.append_nil]
    exact w1.more hD
  · rintro i m H ⟨rfl, hi, qs, hq, ex, wd, hDv⟩
    by_cases hlt : i < ds.length
    · refine .inr ⟨wk.go Z P' i H _ _ hp' ex wd hlt, Inv' (i + 1), fun H' p => ⟨ds.length - (i + 1), by omega, rfl, hlt, p⟩, fun x H' hy => ?_⟩
      obtain ⟨d, hd, dmx, exy, wy⟩ := wk.yld Z P' i H _ _ x H' hp' ex wd hlt hy
      have nlive : ∀ {H3 : Hp} {as3 : List Addr} {μ3 : Mu}, Wd P' H3 as3 μ3 → ¬ ∃ (n : Nat) (e : Ent), as3[n]? = some D0 ∧ μ3[n]? = some (some e) := fun {H3 as3 μ3} w3 ⟨n, e, z1, z2⟩ => by
        obtain ⟨p, g1, g2, _⟩ := w3.obj n e z2
        rw [z1] at g1
        cases g1
        exact g2 (.inr rfl)
      have hD' : H' D0 = some (.lst (qs.map V.ref)) := exy.keep D0 _ hDv (nt_lst _) (nlive wd) fun h => h.elim
      have exA : ExZ Z P' H1 as1 μ1 H' (as1 ++ qs) (Mi i) := ex.trans (exy.more (fun _ h => h.elim) fun a h => .inr h)
      unfold gOf gName tYes
      refine ⟨?_, ?_⟩
      · have e1 : wipe ((wipe σ [j]).set j (some x)) [j] = wipe (wipe σ [j]) [j] := wipe_ext (fun m hm => by
          rw [List.getElem?_set_ne (fun z => hm (by simp [z]))]) (by rw [List.length_set])
        rw [e1]
        exact wipe_ext (fun j hj => wipe_out hj) (wipe_length σ [j])
      · show (if true = true then _ else _)
        rw [if_pos rfl]
        refine ⟨Nat.zero_le _, fun a ha => ?_⟩
        have aD : a ≠ D0 := fun z => by rw [z, hD'] at ha; cases ha
        have w4 : Wd P' (upd H' a (.lst [])) (as1 ++ qs) (Mi i) := wy.laid ha
        obtain ⟨p0, vs0, e0, h0, hP0, hp0, hm0, t0, sp0⟩ := frOk (K := X.K) wy ha (.nil : DmAll (Mf P' (as1 ++ qs) (Mi i)) H' [] [])
        cases e0
        have w5 := w4.push hP0 hp0 hm0 t0 sp0
        have x5 : ExZ Z P' H1 as1 μ1 (upd H' a (.lst [])) (as1 ++ qs ++ [a]) (Mi i ++ [some (.lst [])]) := by
          refine (exA.trans ((Ex.laid ha).more (fun _ h => h.elim) fun a h => .inr h)).push w4 ?_ hP0
          cases q : H1 a with
          | none => rfl
          | some o => exact absurd ha (exA.dom a (by rw [q]; simp))
        have hD5 : upd H' a (.lst []) D0 = some (.lst (qs.map V.ref)) := by rw [upd_ne aD.symm]; exact hD'
        refine ⟨qs.map V.ref, hD5, by rw [List.length_map, hq]; omega, qs ++ [a], by simp [hq], ?_, ?_, ?_⟩
        · have eM : Mi (i + 1) = Mi i ++ [some (.lst [])] := by
            show μ1 ++ _ = μ1 ++ _ ++ _
            rw [rep_push, List.append_assoc]
          rw [eM, ← List.append_assoc]
          exact x5.trans (ExZ.own (fun a h => .inr h) rfl (isl hD5))
        · have eM : Mi (i + 1) = Mi i ++ [some (.lst [])] := by
            show μ1 ++ _ = μ1 ++ _ ++ _
            rw [rep_push, List.append_assoc]
          rw [eM, ← List.append_assoc]
          exact w5.own (.inr rfl) (isl hD5)
        · rw [upd_same, List.map_append]
          rfl
    · have hi' : i = ds.length := by omega
      subst hi'
      refine .inl ⟨wk.stop Z P' _ H _ _ hp' ex wd (Nat.le_refl _), ?_⟩
      have exP : Ex P H1 as1 μ1 H (as1 ++ qs) (Mi ds.length) := ex.less (fun a h => .inl h) (fun _ h => h.elim) fun a h => by
        rw [show a = D0 from h]
        exact .inr hD
      have wP : Wd P H (as1 ++ qs) (Mi ds.length) := wd.less fun a h => .inl h
      have hP : ¬ P D0 := fun z => w1.pt D0 z hD
      have hm : ¬ Mf P (as1 ++ qs) (Mi ds.length) D0 := by
        rintro (z | ⟨n, e, z1, z2⟩)
        · exact hP z
        · obtain ⟨p, g1, g2, _⟩ := wd.obj n e z2
          rw [z1] at g1
          cases g1
          exact g2 (.inr rfl)
      have sp : Sep P H (as1 ++ qs) (Mi ds.length) D0 := fun n xs hn => by
        obtain ⟨q, h1, _, ws, h2, h3⟩ := wd.obj n _ hn
        refine ⟨q, ws, h1, h2, h3.to (fun _ _ e _ => e) fun a z => .inl ?_⟩
        rcases z with (z | z) | z
        · exact .inl (.inl z)
        · exact .inr z
        · exact .inl (.inr z)
      have hlen : (as1 ++ qs).length = μ1.length + ds.length := by rw [List.length_append, hq, w1.len]
      have lm : lolM μ1 ds.length = Mi ds.length ++ [some (.hds (List.range' μ1.length ds.length))] := rfl
      have ho : EnOk P H (as1 ++ qs ++ [D0]) (Mi ds.length ++ [some (.hds (List.range' μ1.length ds.length))]) D0 (.hds (List.range' μ1.length ds.length)) := by
        refine ⟨qs, hDv, ?_, fun n0 e z1 z2 m hm' => ?_⟩
        · refine List.ext_getElem? fun t => ?_
          rw [List.getElem?_map, List.getElem?_map]
          by_cases ht : t < ds.length
          · rw [List.getElem?_range' (by simpa using ht)]
            show some ((as1 ++ qs ++ [D0])[μ1.length + 1 * t]?) = _
            rw [Nat.one_mul, List.getElem?_append_left (by rw [hlen]; omega), ← w1.len, List.getElem?_append_right (by omega), Nat.add_sub_cancel_left, List.getElem?_eq_getElem (by omega)]
            rfl
          · rw [List.getElem?_eq_none (by simpa using ht), List.getElem?_eq_none (by omega)]
            rfl
        · rw [List.mem_range'_1] at hm'
          by_cases hn0 : n0 < (as1 ++ qs).length
          · rw [List.getElem?_append_left hn0] at z1
            rw [List.getElem?_append_left (by rw [← wP.len]; exact hn0)] at z2
            exact (hm (.inr ⟨n0, e, z1, z2⟩)).elim
          · omega
      have w6 := wP.pushE hP hm ho sp
      rw [lm] at f
      exact f H _ (exP.push wP hD hP) w6 _ ⟨D0, by rw [List.getElem?_append_right (by omega), hlen, Nat.sub_self]; rfl, rfl⟩
end
end TL
/-! T12b: sorted(range(n), key=lambda p: w.index(LETTERS[p])) -/
namespace TL
open PySem PySem.Spec PyProof.Rows L2
set_option autoImplicit false
theorem boot_sorted' : bootBuiltins "sorted" = some (.builtin "sorted") := by decide +kernel
theorem clo_look {cells : List (Str × Addr)} {names : List (Str × NameKind)} {x : Str} {c : Addr} (hx : names.lookup x = some .free) (hc : cells.lookup x = some c) : (cloFrom cells names []).lookup x = some c := by
  obtain ⟨c2, h2⟩ := mem_lookup (cloFrom_has (cells := cells) (acc := []) (PySem.mem_of_lookup hx))
  rcases cloFrom_mem (PySem.mem_of_lookup h2) with hm | ⟨h1, h3⟩
  · cases hm
  · have : c2 = c := by
      rw [h3, hc] <;> rfl
    rw [h2, this]
theorem vals_eachK : ∀ {out : List Value} {xs : List Int}, PySem.W.EachIs (fun (v : Value) (x : Int) => ∃ t, v = .int x t) out xs → Vals (xs.map V.int) out
  | _, _, .nil => .nil
  | _, _, .cons h t => .cons h (vals_eachK t)
theorem Ex.ofT {P : Addr → Prop} {H H1 : Hp} {as : List Addr} {μ : Mu} {PP : Addr} (k : KpT PP H H1) (_t : LamX.TabS H PP lamQ) (t1 : LamX.TabS H1 PP lamQ) : Ex P H as μ H1 as μ where
  zp := fun _ z => z.elim
  pre := List.prefix_refl as
  dom := k.dom
  keep := fun a o e nt _ _ => k.keep a o e nt
  tab := fun a t => by
    by_cases e : a = PP
    · rw [e]; exact t1
    · exact k.oth a e _ t
  old := fun n e _ z => ⟨e, z⟩
  new := fun n p hn e => by
    have := (List.getElem?_eq_some_iff.mp e).1
    omega
theorem Wd.ofT {P : Addr → Prop} {H H1 : Hp} {as : List Addr} {μ : Mu} {PP : Addr} (w : Wd P H as μ) (k : KpT PP H H1) : Wd P H1 as μ where
  len := w.len
  obj := fun n e q => by
    obtain ⟨p, h1, h2, h3⟩ := w.obj n e q
    refine ⟨p, h1, h2, ?_⟩
    cases e with
    | lst xs =>
      obtain ⟨vs, e1, t⟩ := h3
      exact ⟨vs, k.keep _ _ e1 (nt_lst _), t.to' (fun a o e nt _ => k.keep a o e nt) fun a z => .inl z⟩
    | hds ns =>
      obtain ⟨ps, e1, t⟩ := h3
      exact ⟨ps, k.keep _ _ e1 (nt_lst _), t⟩
  pt := fun a z => k.dom a (w.pt a z)
  inj := w.inj
section
variable {X : Cx} {c : MC} {W : WX} {γ : Str → Option D} {R : Str → Option (List Vl → Mu → Rs Vl)} {k : Nat} (co : Co X c W γ R k)
include co
theorem e_srk {a : E} {i : Nat} {e : Expr} (ha : ∀ l, mat c a l = true → PE X l (rE X W γ R a)) (h : mat c (.srk a i) e = true) : PE X e (rE X W γ R (.srk a i)) := by
  have hh : ∃ x p p2 pos pos2 kw, e = .Call (.Name "sorted" p) [.Call (.Name "range" p2) [x] [] pos2] [kw] pos ∧ glB c "sorted" = true ∧ glB c "range" = true ∧ mat c a x = true ∧ kw.arg = some "key" ∧ c.lam = true ∧ lamE c i kw.value = true := by
    simp only [m_srk] at h
    split at h
    · simp only [Bool.and_eq_true, decide_eq_true_eq] at h
      obtain ⟨⟨⟨⟨⟨⟨⟨rfl, h1⟩, rfl⟩, h2⟩, h3⟩, h4⟩, h5⟩, h6⟩ := h
      exact ⟨_, _, _, _, _, _, rfl, h1, h2, h3, h4, h5, h6⟩
    · cases h
  obtain ⟨x, p, p2, pos, pos2, kw, rfl, g1, g2, hx, hkw, hlam, hE⟩ := hh
  obtain ⟨kwa, kwv, kwp⟩ := kw
  cases hkw
  have hE : lamE c i kwv = true := hE
  have hL : ∃ pp w pw pa pl pl2 ps pc scope lpos, kwv = .Lambda ⟨[], [⟨"place", none, pp⟩], none, [], [], none, []⟩ (.Call (.Attribute (.Name w pw) "index" pa) [.Subscript (.Name "LETTERS" pl) (.Name "place" pl2) ps] [] pc) scope lpos ∧ (pa.endLine == pc.line) = true ∧ lamB c i w "LETTERS" "place" scope = true := by
    unfold lamE at hE
    split at hE
    · split at hE
      · simp only [Bool.and_eq_true, decide_eq_true_eq] at hE
        obtain ⟨⟨⟨⟨⟨rfl, rfl⟩, rfl⟩, rfl⟩, h4⟩, h5⟩ := hE
        exact ⟨_, _, _, _, _, _, _, _, _, _, rfl, h4, h5⟩
      · cases hE
    · cases hE
  obtain ⟨pp, w, pw, pa, pl, pl2, ps, pc, scope, lpos, rfl, hline, hB⟩ := hL
  obtain ⟨cc, PP, hcode, TB, htab, hq⟩ := co.lm hlam
  unfold lamB at hB
  simp only [Bool.and_eq_true, Bool.or_eq_true, Bool.not_eq_true', decide_eq_true_eq, decide_eq_false_iff_not, List.all_eq_true, beq_iff_eq] at hB
  obtain ⟨⟨⟨⟨⟨⟨⟨⟨⟨⟨b1, b2⟩, b3⟩, b4⟩, b5⟩, b6⟩, b7⟩, b8⟩, b9⟩, b10⟩, b11⟩ := hB
  obtain ⟨v1, v2, v3, v4⟩ := co.vis b1
  have hcell : X.env.kindOf w = some .cell := by
    unfold MC.look at b2
    rw [co.sc] at b2
    exact b2
  have hwl : (w == ("__debug__" : Str)) = false := v3
  refine ⟨fun pins s σ H Q I ⟨ρ, μ, P, as, wd, ro, f⟩ => ?_⟩
  simp only [ev] at f
  have nst : starEach [x] X.env = (false, eval x X.env) :: starEach [] X.env := star_of hx [] X.env
  have run0 := (ha x hx).run pins s σ H (fun y H1 => ∃ (n : Int) (lt : TL.D) (z : Vl) (μ1 : Mu) (as1 : List Addr), y = .int n ∧ γ "LETTERS" = some lt ∧ srkV n lt ρ[i]? = some z ∧ Ex P H as μ H1 as1 μ1 ∧ Wd P H1 as1 μ1 ∧ ∀ H' as', Ex P H1 as1 μ1 H' as' μ1 → Wd P H' as' μ1 → ∀ v, VlOk P H' as' μ1 X.K H v z → Q v H') I ⟨ρ, μ, P, as, wd, ro, (Fin.bind f).mono fun y μ1 H1 as1 e1 ⟨_, w1, f1⟩ v vo => by
    cases y with
    | dt d =>
      cases d with
      | int n =>
        cases hlt : γ "LETTERS" with
        | none =>
          rw [hlt] at f1
          exact f1.elim
        | some lt =>
          rw [hlt] at f1
          obtain ⟨z, hz, q⟩ := Fin.of f1
          cases (show Dm _ H1 v (.int n) from vo)
          exact ⟨n, lt, z, μ1, as1, rfl, rfl, hz, e1, w1, q⟩
      | _ => exact f1.elim
    | _ => exact f1.elim⟩
  refine PySem.wpAny_Call_Name_kw (ld_blt I (co.gl g1).1 (co.blt _ (by decide +kernel)) boot_sorted' ?_ (by decide +kernel) (co.gl g1).2)
  refine PyProof.Rows.callWith_kw (args_cons (e := .Call (.Name "range" p2) [x] [] pos2) (rest := []) ?_ rfl) rfl rfl rfl rfl
  refine Call_ (ld_blt I (co.gl g2).1 (co.blt _ (by decide +kernel)) boot_range ?_)
  refine PyProof.Rows.callWith_type1 (args_cons ?_ nst) nst rfl
  refine thn run0 fun u s1 ⟨v, H1, I1, r1, q1⟩ => args_nil ?_
  · obtain ⟨n, lt, z, μ1, as1, rfl, hlt, hz, e1, w1, q⟩ := q1
    obtain ⟨t0, rfl⟩ := r1
    -- what is asked of the names
    have hz' : ∃ wd lt', lt = .str lt' ∧ ρ[i]? = some (some (.dt (.str wd))) ∧ (srkF n wd lt').map (fun ns => Vl.fr (ns.map PyData.int)) = some z := by
      unfold srkV at hz
      split at hz
      · rename_i lt' wd hr
        exact ⟨wd, lt', rfl, hr, hz⟩
      · cases hz
    obtain ⟨wdd, lt', rfl, hr, hz⟩ := hz'
    rw [Option.map_eq_some_iff] at hz
    obtain ⟨ns, hns, rfl⟩ := hz
    unfold srkF at hns
    split at hns
    case isFalse => cases hns
    rename_i cond
    obtain ⟨n0, n64, hlen, hall⟩ := cond
    have hns := (Option.some.inj hns).symm
    obtain ⟨vw, hvw, dmw⟩ := ro.2.1 i _ hr
    cases (show Dm _ H vw (.str wdd) from dmw)
    obtain ⟨uL, vL, mL, rL, dL⟩ := co.gam _ _ hlt
    cases (dL (fun _ => False) H)
    obtain ⟨tL, rfl⟩ := rL
    obtain ⟨m, rfl⟩ : ∃ m : Nat, n = (m : Int) := ⟨n.toNat, by omega⟩
    -- the range
    refine call_range_1 (args_nil ?_)
    have nr : H1 s1.heap.objs.size = none := I1.hok.fresh (Nat.le_refl _)
    have I2 : L2.Inv X pins σ (upd H1 s1.heap.objs.size (.rng 0 m)) { s1 with heap := s1.heap.push { cls := .type "range", data := .fields #[.int 0 s1.toks, .int m t0, .int 1 (s1.toks + 1)] }, toks := s1.toks + 1 + 1 } :=
      I1.laid (t' := s1.toks + 1 + 1) (fun b o e => Heap.get?_push_of_some _ e) (Nat.le_refl _) ⟨_, _, _, Heap.get?_push_size _ rfl⟩
    have e2 : Ex P H1 as1 μ1 (upd H1 s1.heap.objs.size (.rng 0 m)) as1 μ1 := Ex.laid nr
    have w2 := w1.laid (o := .rng 0 m) nr
    have tb2 : TbOk X.K (upd H1 s1.heap.objs.size (.rng 0 m)) := fun c' P' q' => e2.tab _ (e1.tab _ (ro.2.2 c' P' q'))
    have hr2 : (upd H1 s1.heap.objs.size (.rng 0 m)) s1.heap.objs.size = some (.rng 0 m) := upd_same
    generalize upd H1 s1.heap.objs.size (.rng 0 m) = H2 at I2 e2 w2 tb2 hr2
    generalize s1.heap.objs.size = r at *
    -- the lambda
    show wpAny _ _ (evalAll [do let v ← eval _ X.env; standAt pos; pure v]) _ _ _
    refine wpAny_evalAll_cons (wpAny_bind (lam_mk I2 TB hcode hq (tb2 cc PP htab) rfl (fun y hy hf => ?_) fun f c' pm ctv H3 s3 I3 k3 t3 hf3 hc3 => wpAny_bind (wpAny_standAt (wpAny_pure ?_))))
    · refine I2.ok.has _ (.inl ?_)
      have := (b11 y hy).2
      rcases this with z | z
      · exact absurd hf z
      · rw [co.sc] at z; exact z
    refine wpAny_evalAll_nil ?_
    have e3 : Ex P H2 as1 μ1 H3 as1 μ1 := Ex.ofT k3 (tb2 cc PP htab) t3
    have w3 : Wd P H3 as1 μ1 := w2.ofT k3
    obtain ⟨lo, hi, t5, hrng⟩ := I3.hok r _ (k3.keep _ _ hr2 (fun _ z => by cases z))
    obtain ⟨mm, hN, hlk⟩ := I3.loc
    obtain ⟨uw, rw_, lk⟩ := hlk i w _ v1 hvw v2
    obtain ⟨tw, rfl⟩ := rw_
    have hcx : ∃ cx, X.env.cells.lookup w = some cx ∧ s3.heap.IsCell cx (some (.str wdd tw)) := by
      rcases lk with ⟨z, _⟩ | ⟨_, cx, z1, z2⟩
      · rw [hcell] at z; cases z
      · exact ⟨cx, z1, z2⟩
    obtain ⟨cx, hcx, hcell3⟩ := hcx
    have hd := I3.ok.hd co.calm
    refine sorted_rng (keyK wdd lt') hd hrng (by omega) (by have := co.hu; omega) (fun j tk0 j0 jn g tk kp => ?_) fun h1 out cN h' tk kp1 kp2 hD hlo hE => ?_
    · have hj : j.toNat < m := by omega
      have hk := hall j.toNat (by simpa using hj)
      obtain ⟨ch, hch, jj, rest, hocc, hkey⟩ : ∃ ch, lt'.cps.toList[j.toNat]? = some ch ∧ ∃ jj rest, Builtin.Str.occurrences wdd ⟨#[ch]⟩ 0 wdd.length 1 = jj :: rest ∧ idxK wdd lt' j.toNat = some jj := by
        unfold idxK at hk ⊢
        split at hk
        · rename_i ch hch
          cases ho : Builtin.Str.occurrences wdd ⟨#[ch]⟩ 0 wdd.length 1 with
          | nil => rw [ho] at hk; cases hk
          | cons jj rest => exact ⟨ch, hch, jj, rest, ho, by simp [ho]⟩
        · cases hk
      have hkk : keyK wdd lt' j = (jj : Nat) := by unfold keyK; rw [hkey]; rfl
      have hat : atI lt'.cps.toList j = some ch := by
        unfold atI
        have hl := (List.getElem?_eq_some_iff.mp hch).1
        have : ixN lt'.cps.toList.length j = some j.toNat := by
          unfold ixN
          rw [if_pos (by omega), if_pos (by omega)]
        rw [this]
        exact hch
      refine lam_call (p := "place") (by have := co.hr.dp; show X.A.depth < _; omega) (I3.nolimit.keeps kp) (kp _ _ hf3) b8 b9 b10 (fun y hy => (b11 y hy).1) b5 ?_ rfl fun h₁ tk' kp' hns' => ?_
      · obtain ⟨c2, oc, vs, t, z0, z1, z2, z3⟩ := hc3
        exact ⟨c2, oc, vs, t, z0, kp _ _ z1, z2, z3⟩
      · refine lam_body (t1 := tw) (t3 := tk0) (mg := X.mg) (lt := lt') (wd := wdd) (c := ch) (j := jj) (rest := rest) (i := j) b8 b3 (clo_look b3 hcx) ?_ b4 ?_ mL b5 hns' ?_ (by rw [sizeLine_eq]; omega) hat hocc hline v3 v4 b6 b7 fun t tk2 => ?_
        · obtain ⟨o, z1, z2⟩ := hcell3
          exact ⟨o, kp' _ _ (kp _ _ z1), z2⟩
        · exact (I3.mod.glob.keeps I3.bk).keeps fun b o e => kp' _ _ (kp _ _ e)
        · simp
        · refine ⟨h₁, tk2, rfl, kp', ?_⟩
          rw [hkk]
          exact .int _ _
    · have I4 : L2.Inv X pins σ H3 { s3 with heap := h1 } := I3.kept (t' := s3.toks) kp1
      have nq : H3 h1.objs.size = none := I4.hok.fresh (Nat.le_refl _)
      have hvals : Vals (ns.map V.int) out := by
        rw [hns]
        simp only [Int.toNat_natCast]
        exact vals_eachK hE
      refine ⟨.ref h1.objs.size, upd H3 h1.objs.size (.lst (ns.map V.int)), I4.laid (t' := tk) kp2 (Nat.le_refl _) ⟨?_, out, cN, hvals, hD⟩, rfl, ?_⟩
      · rw [hvals.length, hlo, sizeLine_eq]; omega
      · have ext := (e2.trans e3)
        refine q _ _ (ext.trans (Ex.laid nq)) (w3.laid nq) _ ?_
        exact (frOk w3 nq (DmAll.ofInts _ _ ns)).back fun a ha => e3.dom a (e2.dom a (e1.dom a ha))
end
end TL
/-! T13: comprehensions; all expressions -/
namespace TL
open PySem PySem.Spec L2
set_option autoImplicit false
section
variable {X : Cx} {c : MC} {W : WX} {γ : Str → Option D} {R : Str → Option (List Vl → Mu → Rs Vl)} {k : Nat} (co : Co X c W γ R k)
include co
/-- a list just made is the callee's to change -/
theorem e_mk {a : E} {e : Expr} (ha : ∀ l, mat c a l = true → PE X l (rE X W γ R a)) (h : mat c (.mk a) e = true) : PE X e (rE X W γ R (.mk a)) := by
  have h' : mat c a e = true := by
    simp only [m_mk] at h
    split at h
    · exact h
    · cases h
  refine (ha e h').imp fun σ H Q ⟨ρ, μ, P, as, w, ro, f⟩ => ?_
  simp only [ev] at f
  refine ⟨ρ, μ, P, as, w, ro, ?_⟩
  cases q0 : ev R γ a ρ μ with
  | ok x μ1 =>
    rw [q0] at f
    simp only [Rs.bind] at f
    intro H1 as1 e1 w1 v vo
    cases x with
    | fr xs =>
      obtain ⟨p, vs, rfl, h0, hP, hp, hm, t, sp⟩ := vo
      refine f H1 _ (e1.push (e := some (.lst xs)) w1 h0 hP) (w1.push hP hp hm t sp) _ ⟨p, ?_, rfl⟩
      rw [← w1.len, List.getElem?_append_right (Nat.le_refl _), Nat.sub_self]
      rfl
    | _ => exact f.elim
  | exc cc μ1 => rw [q0] at f; exact f
  | bad => rw [q0] at f; exact f
/-- a comprehension's reading -/
theorem lc_imp {ts : List Nat} {it : E} {cond : Option (Ro → Mu → Rs Bool)} {fe : Ro → Mu → Rs Vl} {tt : TT} {te : TE} (ht : tgOk ts = true)
    (htt : ∀ σ H Q, (match cond with | none => Q true H | some g => tXB X.mg W0 X.K g σ H Q) → tt σ H Q) (hte : ∀ σ H Q, tX X.mg W0 X.K fe σ H Q → te σ H Q) {σ : L2.St} {H : Hp} {Q : VK}
    (h : tX X.mg W X.K (fun ρ μ => (evI R γ it ρ μ).bind fun ds μ1 => if sizeLine < ds.length then .bad else (lcL ts (cond.map fun g ρ μ => (g ρ μ).q) (fun ρ μ => (fe ρ μ).q) ρ ds μ1).bind fun xs μ2 => .ok (.fr xs) μ2) σ H Q) :
    tLc (rI' X W γ R it) (gOf X.K ts) tt te ts σ H Q := by
  obtain ⟨ρ, μ, P, as, w, ro, f⟩ := h
  refine ⟨ρ, μ, P, as, w, ro, (Fin.bind f).mono fun ds μ1 H1 as1 e1 ⟨_, w1, f1⟩ J wk D0 hD => ?_⟩
  by_cases hl : sizeLine < ds.length
  · rw [if_pos hl] at f1; exact f1.elim
  · rw [if_neg hl] at f1
    exact lc_turns co ht w1 (ro.ex e1) wk (by omega) e1.dom htt hte f1 D0 hD
omit co in
theorem own_of {ts : List Nat} {tg : Expr} {own : List (Str × Nat)} (h : tgOwn ts tg = some own) : own.map (·.2) = ts := by
  unfold tgOwn at h
  split at h
  · cases h; rfl
  · cases h; rfl
  · cases h
omit co in
theorem noSetI_of {a : E} {e : Expr} (h : matI c a e = true) (env : Env) (x : Value) : foldedSetIterable e env x = pure x := by
  cases a with
  | itv b => exact noSet_of (a := b) h env x
  | _ =>
    cases e with
    | Set l n p => exact absurd h Bool.false_ne_true
    | _ => rfl
/-- what a comprehension is made of -/
structure LcOk (X : Cx) (t : TE) (e : Expr) : Prop where
  ex : ∃ el tg iter ifs scope own pos wi g tt te, e = .ListComp el [⟨tg, iter, ifs, 0⟩] scope pos ∧ PI X tg iter wi ∧ BlkOk X.N X.env.scope scope own ∧
    (∀ (s : Shared) (H : Hp) (C : Addr) (cl : List (Str × Addr)) (fp : List Addr), PG (X.blk s H scope (compEnvC scope cl C X.env) fp) tg g) ∧ (∀ (s : Shared) (H : Hp) (C : Addr) (cl : List (Str × Addr)) (fp : List Addr), PTs (X.blk s H scope (compEnvC scope cl C X.env) fp) ifs tt) ∧
    (∀ (s : Shared) (H : Hp) (C : Addr) (cl : List (Str × Addr)) (fp : List Addr), PE (X.blk s H scope (compEnvC scope cl C X.env) fp) el te) ∧ (∀ x, foldedSetIterable iter X.env x = pure x) ∧ ∀ σ H Q, t σ H Q → tLc wi g tt te (own.map (·.2)) σ H Q
theorem LcOk.pe {t : TE} {e : Expr} (h : LcOk X t e) : PE X e t := by
  obtain ⟨el, tg, iter, ifs, scope, own, pos, wi, g, tt, te, rfl, h1, h2, h3, h4, h5, h6, h7⟩ := h.ex
  exact (pe_lc co.calm co.nd h1 h2 h3 h4 h5 h6).imp h7
theorem e_lc {ts : List Nat} {it elt : E} {e : Expr} (hi : ∀ tg l, matI c it l = true → PI X tg l (rI' X W γ R it))
    (he : ∀ (X : Cx) (c : MC), Co X c W0 γ R k → ∀ l, mat c elt l = true → PE X l (rE X W0 γ R elt)) (h : mat c (.lc ts it elt) e = true) : LcOk X (rE X W γ R (.lc ts it elt)) e := by
  simp only [m_lc] at h
  split at h
  · rename_i el tg iter scope pos
    split at h
    · rename_i own ho
      simp only [Bool.and_eq_true] at h
      obtain ⟨⟨⟨h1, h2⟩, h3⟩, h4⟩ := h
      rw [co.N, co.sc] at h1
      refine ⟨el, tg, iter, [], scope, own, pos, rI' X W γ R it, gOf X.K ts, tYes, tX X.mg W0 X.K (ev R γ elt), rfl, hi tg iter h3, blkOk_by h1, fun s H C cl fp => pg_of (co.blk s H C cl fp scope) h2, fun s H C cl fp => pts_nil, fun s H C cl fp => he _ _ (co.blk s H C cl fp scope) el h4, noSetI_of h3 X.env, fun σ H Q q => ?_⟩
      rw [own_of ho]
      simp only [tX, ev] at q
      exact lc_imp co (cond := none) (fe := ev R γ elt) (tgOk_of h2) (fun _ _ _ q => q) (fun _ _ _ q => q) q
    · cases h
  · cases h
theorem e_lcf {ts : List Nat} {it cond elt : E} {e : Expr} (hi : ∀ tg l, matI c it l = true → PI X tg l (rI' X W γ R it))
    (hc : ∀ (X : Cx) (c : MC), Co X c W0 γ R k → ∀ l, mat c cond l = true → PT X l (rB X W0 γ R cond))
    (he : ∀ (X : Cx) (c : MC), Co X c W0 γ R k → ∀ l, mat c elt l = true → PE X l (rE X W0 γ R elt)) (h : mat c (.lcf ts it cond elt) e = true) : LcOk X (rE X W γ R (.lcf ts it cond elt)) e := by
  simp only [m_lcf] at h
  split at h
  · rename_i el tg iter cnd scope pos
    split at h
    · rename_i own ho
      simp only [Bool.and_eq_true] at h
      obtain ⟨⟨⟨⟨h1, h2⟩, h3⟩, h5⟩, h4⟩ := h
      rw [co.N, co.sc] at h1
      refine ⟨el, tg, iter, [cnd], scope, own, pos, rI' X W γ R it, gOf X.K ts, tXB X.mg W0 X.K (evB R γ cond), tX X.mg W0 X.K (ev R γ elt), rfl, hi tg iter h3, blkOk_by h1, fun s H C cl fp => pg_of (co.blk s H C cl fp scope) h2, fun s H C cl fp => pts_one (hc _ _ (co.blk s H C cl fp scope) cnd h5), fun s H C cl fp => he _ _ (co.blk s H C cl fp scope) el h4, noSetI_of h3 X.env, fun σ H Q q => ?_⟩
      rw [own_of ho]
      simp only [tX, ev] at q
      exact lc_imp co (cond := some (evB R γ cond)) (fe := ev R γ elt) (tgOk_of h2) (fun _ _ _ q => q) (fun _ _ _ q => q) q
    · cases h
  · cases h
end
section
variable {X : Cx} {c : MC} {W : WX} {γ : Str → Option D} {R : Str → Option (List Vl → Mu → Rs Vl)} {k : Nat} (co : Co X c W γ R k)
include co
/-- a row of empty lists -/
theorem e_lol {j : Nat} {it : E} {e : Expr} (hi : ∀ tg l, matI c it l = true → PI X tg l (rI' X W γ R it)) (h : mat c (.lol j it) e = true) : LcOk X (rE X W γ R (.lol j it)) e := by
  simp only [m_lol] at h
  split at h
  · rename_i p1 tg iter scope pos
    split at h
    · rename_i own ho
      simp only [Bool.and_eq_true] at h
      obtain ⟨⟨h1, h2⟩, h3⟩ := h
      rw [co.N, co.sc] at h1
      refine ⟨_, tg, iter, [], scope, own, pos, rI' X W γ R it, gOf X.K [j], tYes, tLst tNil, rfl, hi tg iter h3, blkOk_by h1, fun s H C cl fp => pg_of (co.blk s H C cl fp scope) h2, fun s H C cl fp => pts_nil, fun s H C cl fp => pe_lst pa_nil, noSetI_of h3 X.env, fun σ H Q q => ?_⟩
      rw [own_of ho]
      obtain ⟨ρ, μ, P, as, w, ro, f⟩ := q
      simp only [ev] at f
      refine ⟨ρ, μ, P, as, w, ro, (Fin.bind f).mono fun ds μ1 H1 as1 e1 ⟨_, w1, f1⟩ J wk D0 hD => ?_⟩
      by_cases hl : sizeLine < ds.length
      · rw [if_pos hl] at f1; exact f1.elim
      · rw [if_neg hl] at f1
        exact lol_turns co w1 (ro.ex e1) wk (by omega) f1 D0 hD
    · cases h
  · cases h
end
/-- heads whose truth is asked of the value -/
def E.plainH : E → Bool
  | .cmp .. | .chn .. | .chn3 .. | .and _ | .or _ | .not _ | .ife .. => false
  | _ => true
theorem he_of {c : MC} {a : E} {e : Expr} (h : mat c a e = true) (hp : a.plainH = true) (env : Env) : ∀ whole, isTrue e env whole = (do let v ← whole; standAt e.pos; holding [v] (truthy v)) := by
  intro whole
  cases e with
  | BoolOp o l p => cases a <;> first | exact absurd h Bool.false_ne_true | exact absurd hp Bool.false_ne_true
  | UnaryOp o l p => cases o <;> first | rfl | (cases a <;> first | exact absurd h Bool.false_ne_true | exact absurd hp Bool.false_ne_true)
  | Compare l os rs p => cases a <;> first | exact absurd h Bool.false_ne_true | exact absurd hp Bool.false_ne_true
  | IfExp t1 t2 t3 p => cases a <;> first | exact absurd h Bool.false_ne_true | exact absurd hp Bool.false_ne_true
  | _ => rfl
/-- soundness at one expression, wherever it stands -/
structure Snd (γ : Str → Option D) (R : Str → Option (List Vl → Mu → Rs Vl)) (k : Nat) (a : E) : Prop where
  pe : ∀ (X : Cx) (c : MC) (W : WX), Co X c W γ R k → ∀ l, mat c a l = true → PE X l (rE X W γ R a)
  pt : ∀ (X : Cx) (c : MC) (W : WX), Co X c W γ R k → ∀ l, mat c a l = true → PT X l (rB X W γ R a)
  pa : ∀ (X : Cx) (c : MC) (W : WX), Co X c W γ R k → ∀ l, matL c a l = true → PA X l (rL X W γ R a)
  po : ∀ (X : Cx) (c : MC) (W : WX), Co X c W γ R k → ∀ l, matO c a l = true → PO X l (rP X W γ R a)
  pi : ∀ (X : Cx) (c : MC) (W : WX), Co X c W γ R k → ∀ tg l, matI c a l = true → PI X tg l (rI' X W γ R a)
  lc : ∀ (X : Cx) (c : MC) (W : WX), Co X c W γ R k → ∀ l, mat c a l = true → isLc l = true → LcOk X (rE X W γ R a) l
theorem snd_plain {γ : Str → Option D} {R : Str → Option (List Vl → Mu → Rs Vl)} {k : Nat} {a : E} (hp : a.plainH = true) (pe : ∀ (X : Cx) (c : MC) (W : WX), Co X c W γ R k → ∀ l, mat c a l = true → PE X l (rE X W γ R a))
    (hl : ∀ c l, matL c a l = false) (ho : ∀ c l, matO c a l = false) (hi : ∀ c l, matI c a l = false) (hlc : ∀ c l, mat c a l = true → isLc l = false) : Snd γ R k a where
  pe := pe
  pt := fun X c W co l h => t_plain co (pe X c W co l h) (by cases a <;> first | rfl | (simp [E.plainH] at hp)) (he_of h hp X.env)
  pa := fun X c W co l h => by rw [hl] at h; cases h
  po := fun X c W co l h => by rw [ho] at h; cases h
  pi := fun X c W co tg l h => by rw [hi] at h; cases h
  lc := fun X c W co l h q => by rw [hlc c l h] at q; cases q
def AllIn (γ : Str → Option D) (R : Str → Option (List Vl → Mu → Rs Vl)) (k : Nat) (a : E) : Prop := ∀ b, E.In b a → Snd γ R k b
theorem snd_both (γ : Str → Option D) (R : Str → Option (List Vl → Mu → Rs Vl)) (k : Nat) (a : E) : Snd γ R k a ∧ AllIn γ R k a := by
  have ni : ∀ {a : E}, (∀ b, ¬ E.In b a) → AllIn γ R k a := fun h b z => (h b z).elim
  have nlc : ∀ {a : E}, (∀ c l, mat c a (l : Expr) = true → isLc l = true → False) → ∀ c l, mat c a l = true → isLc l = false := fun h c l m => by
    cases q : isLc l with
    | false => rfl
    | true => exact (h c l m q).elim
  induction a with
  | nil =>
    refine ⟨⟨fun X c W co l h => absurd h Bool.false_ne_true, fun X c W co l h => absurd h Bool.false_ne_true, fun X c W co l h => l_nil co h, fun X c W co l h => p_nil co h, fun X c W co tg l h => absurd h Bool.false_ne_true, fun X c W co l h => absurd h Bool.false_ne_true⟩, ni fun b h => h⟩
  | cons a r ia ir =>
    refine ⟨⟨fun X c W co l h => absurd h Bool.false_ne_true, fun X c W co l h => absurd h Bool.false_ne_true, fun X c W co l h => l_cons co (ia.1.pe X c W co) (ir.1.pa X c W co) h, fun X c W co l h => p_cons co (ia.1.pe X c W co) h, fun X c W co tg l h => absurd h Bool.false_ne_true, fun X c W co l h => absurd h Bool.false_ne_true⟩, fun b h => ?_⟩
    rcases h with rfl | h
    · exact ia.1
    · exact ir.2 b h
  | var i => exact ⟨snd_plain rfl (fun X c W co l h => e_var co h) (fun _ _ => rfl) (fun _ _ => rfl) (fun _ _ => rfl) (nlc fun c l m q => by cases l <;> first | exact absurd q Bool.false_ne_true | exact absurd m Bool.false_ne_true), ni fun b h => h⟩
  | frz i => exact ⟨snd_plain rfl (fun X c W co l h => e_frz co h) (fun _ _ => rfl) (fun _ _ => rfl) (fun _ _ => rfl) (nlc fun c l m q => by cases l <;> first | exact absurd q Bool.false_ne_true | exact absurd m Bool.false_ne_true), ni fun b h => h⟩
  | cst d => exact ⟨snd_plain rfl (fun X c W co l h => e_cst co h) (fun _ _ => rfl) (fun _ _ => rfl) (fun _ _ => rfl) (nlc fun c l m q => by cases l <;> first | exact absurd q Bool.false_ne_true | exact absurd m Bool.false_ne_true), ni fun b h => h⟩
  | glb x => exact ⟨snd_plain rfl (fun X c W co l h => e_glb co h) (fun _ _ => rfl) (fun _ _ => rfl) (fun _ _ => rfl) (nlc fun c l m q => by cases l <;> first | exact absurd q Bool.false_ne_true | exact absurd m Bool.false_ne_true), ni fun b h => h⟩
  | bin op a b ia ib => exact ⟨snd_plain rfl (fun X c W co l h => e_bin co (ia.1.pe X c W co) (ib.1.pe X c W co) h) (fun _ _ => rfl) (fun _ _ => rfl) (fun _ _ => rfl) (nlc fun c l m q => by cases l <;> first | exact absurd q Bool.false_ne_true | exact absurd m Bool.false_ne_true), ni fun b h => h⟩
  | neg a ia => exact ⟨snd_plain rfl (fun X c W co l h => e_neg co (ia.1.pe X c W co) h) (fun _ _ => rfl) (fun _ _ => rfl) (fun _ _ => rfl) (nlc fun c l m q => by cases l <;> first | exact absurd q Bool.false_ne_true | exact absurd m Bool.false_ne_true), ni fun b h => h⟩
  | not a ia =>
    refine ⟨⟨fun X c W co l h => e_not co (ia.1.pe X c W co) h, fun X c W co l h => t_not co (ia.1.pt X c W co) h, fun X c W co l h => absurd h Bool.false_ne_true, fun X c W co l h => absurd h Bool.false_ne_true, fun X c W co tg l h => absurd h Bool.false_ne_true, fun X c W co l h q => by cases l <;> first | exact absurd q Bool.false_ne_true | exact absurd h Bool.false_ne_true⟩, ni fun b h => h⟩
  | cmp op a b ia ib =>
    refine ⟨⟨fun X c W co l h => e_cmp co (ia.1.pe X c W co) (ib.1.pe X c W co) h, fun X c W co l h => e_cmpT co (ia.1.pe X c W co) (ib.1.pe X c W co) h, fun X c W co l h => absurd h Bool.false_ne_true, fun X c W co l h => absurd h Bool.false_ne_true, fun X c W co tg l h => absurd h Bool.false_ne_true, fun X c W co l h q => by cases l <;> first | exact absurd q Bool.false_ne_true | exact absurd h Bool.false_ne_true⟩, ni fun b h => h⟩
  | chn o1 o2 a b d ia ib id =>
    refine ⟨⟨fun X c W co l h => (e_chn co (ia.1.pe X c W co) (ib.1.pe X c W co) (id.1.pe X c W co) h).1, fun X c W co l h => (e_chn co (ia.1.pe X c W co) (ib.1.pe X c W co) (id.1.pe X c W co) h).2, fun X c W co l h => absurd h Bool.false_ne_true, fun X c W co l h => absurd h Bool.false_ne_true, fun X c W co tg l h => absurd h Bool.false_ne_true, fun X c W co l h q => by cases l <;> first | exact absurd q Bool.false_ne_true | exact absurd h Bool.false_ne_true⟩, ni fun b h => h⟩
  | and es ies =>
    have hh : ∀ c l, mat c (.and es) l = true → ∃ l' p, l = .BoolOp .And l' p ∧ matL c es l' = true ∧ 2 ≤ l'.length ∧ es.noIfe = true := fun c l h => by
      simp only [m_var, m_frz, m_cst, m_glb, m_bin, m_neg, m_not, m_cmp, m_chn, m_and, m_or, m_ife, m_tup, m_lst, m_idx, m_slc, m_rev, m_lc, m_lcf, m_len, m_call, m_bi, m_isi, m_mt, m_app, m_ext, m_pop, m_popAt, m_rvs, m_sset, m_chn3, m_lix, m_upp, m_srk, m_edt, m_idh, m_lol, m_lset, m_mk, m_lrg, m_lrg2, m_nil, m_cons, m_rng, m_zip, m_enm, m_itv] at h
      split at h
      · simp only [Bool.and_eq_true, decide_eq_true_eq] at h
        exact ⟨_, _, rfl, h.1.1, h.1.2, h.2⟩
      · cases h
    refine ⟨⟨fun X c W co l h => ?_, fun X c W co l h => ?_, fun X c W co l h => absurd h Bool.false_ne_true, fun X c W co l h => absurd h Bool.false_ne_true, fun X c W co tg l h => absurd h Bool.false_ne_true, fun X c W co l h q => by cases l <;> first | exact absurd q Bool.false_ne_true | exact absurd h Bool.false_ne_true⟩, ni fun b h => h⟩
    · obtain ⟨l', p, rfl, h1, h2, h3⟩ := hh c l h
      refine (b_and co es l' p (fun a e i m => (ies.2 a i).pe X c W co e m) h1 (by omega)).imp fun σ H Q q => ?_
      simp only [tX, ev] at q
      exact q
    · obtain ⟨l', p, rfl, h1, h2, h3⟩ := hh c l h
      refine (bt_and co es l' p (fun a e i m => (ies.2 a i).pt X c W co e m) h1 h3 (by omega)).pt.imp fun σ H Q q => ?_
      simp only [tXB, evB, E.isIfe, ev, Bool.false_eq_true, if_false] at q
      exact q
  | or es ies =>
    have hh : ∀ c l, mat c (.or es) l = true → ∃ l' p, l = .BoolOp .Or l' p ∧ matL c es l' = true ∧ 2 ≤ l'.length ∧ es.noIfe = true := fun c l h => by
      simp only [m_var, m_frz, m_cst, m_glb, m_bin, m_neg, m_not, m_cmp, m_chn, m_and, m_or, m_ife, m_tup, m_lst, m_idx, m_slc, m_rev, m_lc, m_lcf, m_len, m_call, m_bi, m_isi, m_mt, m_app, m_ext, m_pop, m_popAt, m_rvs, m_sset, m_chn3, m_lix, m_upp, m_srk, m_edt, m_idh, m_lol, m_lset, m_mk, m_lrg, m_lrg2, m_nil, m_cons, m_rng, m_zip, m_enm, m_itv] at h
      split at h
      · simp only [Bool.and_eq_true, decide_eq_true_eq] at h
        exact ⟨_, _, rfl, h.1.1, h.1.2, h.2⟩
      · cases h
    refine ⟨⟨fun X c W co l h => ?_, fun X c W co l h => ?_, fun X c W co l h => absurd h Bool.false_ne_true, fun X c W co l h => absurd h Bool.false_ne_true, fun X c W co tg l h => absurd h Bool.false_ne_true, fun X c W co l h q => by cases l <;> first | exact absurd q Bool.false_ne_true | exact absurd h Bool.false_ne_true⟩, ni fun b h => h⟩
    · obtain ⟨l', p, rfl, h1, h2, h3⟩ := hh c l h
      refine (b_or co es l' p (fun a e i m => (ies.2 a i).pe X c W co e m) h1 (by omega)).imp fun σ H Q q => ?_
      simp only [tX, ev] at q
      exact q
    · obtain ⟨l', p, rfl, h1, h2, h3⟩ := hh c l h
      refine (bt_or co es l' p (fun a e i m => (ies.2 a i).pt X c W co e m) h1 h3 (by omega)).pt.imp fun σ H Q q => ?_
      simp only [tXB, evB, E.isIfe, ev, Bool.false_eq_true, if_false] at q
      exact q
  | ife t a b it ia ib =>
    refine ⟨⟨fun X c W co l h => e_ife co (it.1.pt X c W co) (ia.1.pe X c W co) (ib.1.pe X c W co) h, fun X c W co l h => ⟨fun pins s σ H Q I ⟨ρ, μ, P, as, w, ro, f⟩ => ?_⟩, fun X c W co l h => absurd h Bool.false_ne_true, fun X c W co l h => absurd h Bool.false_ne_true, fun X c W co tg l h => absurd h Bool.false_ne_true, fun X c W co l h q => by cases l <;> first | exact absurd q Bool.false_ne_true | exact absurd h Bool.false_ne_true⟩, ni fun b h => h⟩
    simp only [evB, E.isIfe, if_true] at f
    exact f.elim
  | tup es ies => exact ⟨snd_plain rfl (fun X c W co l h => e_tup co (ies.1.pa X c W co) h) (fun _ _ => rfl) (fun _ _ => rfl) (fun _ _ => rfl) (nlc fun c l m q => by cases l <;> first | exact absurd q Bool.false_ne_true | exact absurd m Bool.false_ne_true), ni fun b h => h⟩
  | lst es ies => exact ⟨snd_plain rfl (fun X c W co l h => e_lst co (ies.1.pa X c W co) h) (fun _ _ => rfl) (fun _ _ => rfl) (fun _ _ => rfl) (nlc fun c l m q => by cases l <;> first | exact absurd q Bool.false_ne_true | exact absurd m Bool.false_ne_true), ni fun b h => h⟩
  | idx a b ia ib => exact ⟨snd_plain rfl (fun X c W co l h => e_idx co (ia.1.pe X c W co) (ib.1.pe X c W co) h) (fun _ _ => rfl) (fun _ _ => rfl) (fun _ _ => rfl) (nlc fun c l m q => by cases l <;> first | exact absurd q Bool.false_ne_true | exact absurd m Bool.false_ne_true), ni fun b h => h⟩
  | slc a lo hi ia il ih => exact ⟨snd_plain rfl (fun X c W co l h => e_slc co (ia.1.pe X c W co) (il.1.po X c W co) (ih.1.po X c W co) h) (fun _ _ => rfl) (fun _ _ => rfl) (fun _ _ => rfl) (nlc fun c l m q => by cases l <;> first | exact absurd q Bool.false_ne_true | exact absurd m Bool.false_ne_true), ni fun b h => h⟩
  | rvs a lo hi ia il ih => exact ⟨snd_plain rfl (fun X c W co l h => e_rvs co (ia.1.pe X c W co) (il.1.po X c W co) (ih.1.po X c W co) h) (fun _ _ => rfl) (fun _ _ => rfl) (fun _ _ => rfl) (nlc fun c l m q => by cases l <;> first | exact absurd q Bool.false_ne_true | exact absurd m Bool.false_ne_true), ni fun b h => h⟩
  | rev a ia => exact ⟨snd_plain rfl (fun X c W co l h => e_rev co (ia.1.pe X c W co) h) (fun _ _ => rfl) (fun _ _ => rfl) (fun _ _ => rfl) (nlc fun c l m q => by cases l <;> first | exact absurd q Bool.false_ne_true | exact absurd m Bool.false_ne_true), ni fun b h => h⟩
  | rng es ies => exact ⟨⟨fun X c W co l h => absurd h Bool.false_ne_true, fun X c W co l h => absurd h Bool.false_ne_true, fun X c W co l h => absurd h Bool.false_ne_true, fun X c W co l h => absurd h Bool.false_ne_true, fun X c W co tg l h => i_rng co (ies.1.pa X c W co) h, fun X c W co l h => absurd h Bool.false_ne_true⟩, ni fun b h => h⟩
  | zip a b ia ib => exact ⟨⟨fun X c W co l h => absurd h Bool.false_ne_true, fun X c W co l h => absurd h Bool.false_ne_true, fun X c W co l h => absurd h Bool.false_ne_true, fun X c W co l h => absurd h Bool.false_ne_true, fun X c W co tg l h => absurd h Bool.false_ne_true, fun X c W co l h => absurd h Bool.false_ne_true⟩, ni fun b h => h⟩
  | enm a ia => exact ⟨⟨fun X c W co l h => absurd h Bool.false_ne_true, fun X c W co l h => absurd h Bool.false_ne_true, fun X c W co l h => absurd h Bool.false_ne_true, fun X c W co l h => absurd h Bool.false_ne_true, fun X c W co tg l h => absurd h Bool.false_ne_true, fun X c W co l h => absurd h Bool.false_ne_true⟩, ni fun b h => h⟩
  | itv a ia => exact ⟨⟨fun X c W co l h => absurd h Bool.false_ne_true, fun X c W co l h => absurd h Bool.false_ne_true, fun X c W co l h => absurd h Bool.false_ne_true, fun X c W co l h => absurd h Bool.false_ne_true, fun X c W co tg l h => i_itv co (ia.1.pe X c W co) h, fun X c W co l h => absurd h Bool.false_ne_true⟩, ni fun b h => h⟩
  | lc ts it elt ii ie =>
    have lo : ∀ (X : Cx) (c : MC) (W : WX), Co X c W γ R k → ∀ l, mat c (.lc ts it elt) l = true → LcOk X (rE X W γ R (.lc ts it elt)) l := fun X c W co l h => e_lc co (ii.1.pi X c W co) (fun X c co => ie.1.pe X c W0 co) h
    refine ⟨⟨fun X c W co l h => (lo X c W co l h).pe co, fun X c W co l h => t_plain co ((lo X c W co l h).pe co) rfl (he_of h rfl X.env), fun X c W co l h => absurd h Bool.false_ne_true, fun X c W co l h => absurd h Bool.false_ne_true, fun X c W co tg l h => absurd h Bool.false_ne_true, fun X c W co l h q => lo X c W co l h⟩, ni fun b h => h⟩
  | lcf ts it cnd elt ii ic ie =>
    have lo : ∀ (X : Cx) (c : MC) (W : WX), Co X c W γ R k → ∀ l, mat c (.lcf ts it cnd elt) l = true → LcOk X (rE X W γ R (.lcf ts it cnd elt)) l := fun X c W co l h => e_lcf co (ii.1.pi X c W co) (fun X c co => ic.1.pt X c W0 co) (fun X c co => ie.1.pe X c W0 co) h
    refine ⟨⟨fun X c W co l h => (lo X c W co l h).pe co, fun X c W co l h => t_plain co ((lo X c W co l h).pe co) rfl (he_of h rfl X.env), fun X c W co l h => absurd h Bool.false_ne_true, fun X c W co l h => absurd h Bool.false_ne_true, fun X c W co tg l h => absurd h Bool.false_ne_true, fun X c W co l h q => lo X c W co l h⟩, ni fun b h => h⟩
  | len a ia => exact ⟨snd_plain rfl (fun X c W co l h => e_len co (ia.1.pe X c W co) h) (fun _ _ => rfl) (fun _ _ => rfl) (fun _ _ => rfl) (nlc fun c l m q => by cases l <;> first | exact absurd q Bool.false_ne_true | exact absurd m Bool.false_ne_true), ni fun b h => h⟩
  | call f es ies => exact ⟨snd_plain rfl (fun X c W co l h => e_call co (ies.1.pa X c W co) h) (fun _ _ => rfl) (fun _ _ => rfl) (fun _ _ => rfl) (nlc fun c l m q => by cases l <;> first | exact absurd q Bool.false_ne_true | exact absurd m Bool.false_ne_true), ni fun b h => h⟩
  | bi b es ies => exact ⟨snd_plain rfl (fun X c W co l h => e_bi co (ies.1.pa X c W co) h) (fun _ _ => rfl) (fun _ _ => rfl) (fun _ _ => rfl) (nlc fun c l m q => by cases l <;> first | exact absurd q Bool.false_ne_true | exact absurd m Bool.false_ne_true), ni fun b h => h⟩
  | isi a T ia => exact ⟨snd_plain rfl (fun X c W co l h => e_isi co (ia.1.pe X c W co) h) (fun _ _ => rfl) (fun _ _ => rfl) (fun _ _ => rfl) (nlc fun c l m q => by cases l <;> first | exact absurd q Bool.false_ne_true | exact absurd m Bool.false_ne_true), ni fun b h => h⟩
  | mt m o es io ies => exact ⟨snd_plain rfl (fun X c W co l h => e_mt co (io.1.pe X c W co) (ies.1.pa X c W co) h) (fun _ _ => rfl) (fun _ _ => rfl) (fun _ _ => rfl) (nlc fun c l m q => by cases l <;> first | exact absurd q Bool.false_ne_true | exact absurd m Bool.false_ne_true), ni fun b h => h⟩
  | app o e io ie => exact ⟨snd_plain rfl (fun X c W co l h => e_app co (io.1.pe X c W co) (ie.1.pe X c W co) h) (fun _ _ => rfl) (fun _ _ => rfl) (fun _ _ => rfl) (nlc fun c l m q => by cases l <;> first | exact absurd q Bool.false_ne_true | exact absurd m Bool.false_ne_true), ni fun b h => h⟩
  | ext o e io ie => exact ⟨snd_plain rfl (fun X c W co l h => e_ext co (io.1.pe X c W co) (ie.1.pe X c W co) h) (fun _ _ => rfl) (fun _ _ => rfl) (fun _ _ => rfl) (nlc fun c l m q => by cases l <;> first | exact absurd q Bool.false_ne_true | exact absurd m Bool.false_ne_true), ni fun b h => h⟩
  | pop o io => exact ⟨snd_plain rfl (fun X c W co l h => e_pop co (io.1.pe X c W co) h) (fun _ _ => rfl) (fun _ _ => rfl) (fun _ _ => rfl) (nlc fun c l m q => by cases l <;> first | exact absurd q Bool.false_ne_true | exact absurd m Bool.false_ne_true), ni fun b h => h⟩
  | popAt o e io ie => exact ⟨snd_plain rfl (fun X c W co l h => e_popAt co (io.1.pe X c W co) (ie.1.pe X c W co) h) (fun _ _ => rfl) (fun _ _ => rfl) (fun _ _ => rfl) (nlc fun c l m q => by cases l <;> first | exact absurd q Bool.false_ne_true | exact absurd m Bool.false_ne_true), ni fun b h => h⟩
  | srk a i ia => exact ⟨snd_plain rfl (fun X c W co l h => e_srk co (ia.1.pe X c W co) h) (fun _ _ => rfl) (fun _ _ => rfl) (fun _ _ => rfl) (nlc fun c l m q => by cases l <;> first | exact absurd q Bool.false_ne_true | exact absurd m Bool.false_ne_true), ni fun b h => h⟩
  | lrg a ia => exact ⟨snd_plain rfl (fun X c W co l h => e_lrg co (ia.1.pe X c W co) h) (fun _ _ => rfl) (fun _ _ => rfl) (fun _ _ => rfl) (nlc fun c l m q => by cases l <;> first | exact absurd q Bool.false_ne_true | exact absurd m Bool.false_ne_true), ni fun b h => h⟩
  | sset a ia => exact ⟨snd_plain rfl (fun X c W co l h => e_sset co (ia.1.pe X c W co) h) (fun _ _ => rfl) (fun _ _ => rfl) (fun _ _ => rfl) (nlc fun c l m q => by cases l <;> first | exact absurd q Bool.false_ne_true | exact absurd m Bool.false_ne_true), ni fun b h => h⟩
  | chn3 o1 o2 o3 a b d d2 ia ib id id2 =>
    refine ⟨⟨fun X c W co l h => (e_ch3 co (ia.1.pe X c W co) (ib.1.pe X c W co) (id.1.pe X c W co) (id2.1.pe X c W co) h).1, fun X c W co l h => (e_ch3 co (ia.1.pe X c W co) (ib.1.pe X c W co) (id.1.pe X c W co) (id2.1.pe X c W co) h).2, fun X c W co l h => absurd h Bool.false_ne_true, fun X c W co l h => absurd h Bool.false_ne_true, fun X c W co tg l h => absurd h Bool.false_ne_true, fun X c W co l h q => by cases l <;> first | exact absurd q Bool.false_ne_true | exact absurd h Bool.false_ne_true⟩, ni fun b h => h⟩
  | lix a b ia ib => exact ⟨snd_plain rfl (fun X c W co l h => e_lix co (ia.1.pe X c W co) (ib.1.pe X c W co) h) (fun _ _ => rfl) (fun _ _ => rfl) (fun _ _ => rfl) (nlc fun c l m q => by cases l <;> first | exact absurd q Bool.false_ne_true | exact absurd m Bool.false_ne_true), ni fun b h => h⟩
  | upp a ia => exact ⟨snd_plain rfl (fun X c W co l h => e_upp co (ia.1.pe X c W co) h) (fun _ _ => rfl) (fun _ _ => rfl) (fun _ _ => rfl) (nlc fun c l m q => by cases l <;> first | exact absurd q Bool.false_ne_true | exact absurd m Bool.false_ne_true), ni fun b h => h⟩
  | edt => exact ⟨snd_plain rfl (fun X c W co l h => e_edt co h) (fun _ _ => rfl) (fun _ _ => rfl) (fun _ _ => rfl) (nlc fun c l m q => by cases l <;> first | exact absurd q Bool.false_ne_true | exact absurd m Bool.false_ne_true), ni fun b h => h⟩
  | idh i a ia => exact ⟨snd_plain rfl (fun X c W co l h => e_idh co (ia.1.pe X c W co) h) (fun _ _ => rfl) (fun _ _ => rfl) (fun _ _ => rfl) (nlc fun c l m q => by cases l <;> first | exact absurd q Bool.false_ne_true | exact absurd m Bool.false_ne_true), ni fun b h => h⟩
  | lol j it ii =>
    have lo : ∀ (X : Cx) (c : MC) (W : WX), Co X c W γ R k → ∀ l, mat c (.lol j it) l = true → LcOk X (rE X W γ R (.lol j it)) l := fun X c W co l h => e_lol co (ii.1.pi X c W co) h
    exact ⟨⟨fun X c W co l h => (lo X c W co l h).pe co, fun X c W co l h => t_plain co ((lo X c W co l h).pe co) rfl (he_of h rfl X.env), fun X c W co l h => absurd h Bool.false_ne_true, fun X c W co l h => absurd h Bool.false_ne_true, fun X c W co tg l h => absurd h Bool.false_ne_true, fun X c W co l h q => lo X c W co l h⟩, ni fun b h => h⟩
  | lset a ia => exact ⟨snd_plain rfl (fun X c W co l h => e_lset co (ia.1.pe X c W co) h) (fun _ _ => rfl) (fun _ _ => rfl) (fun _ _ => rfl) (nlc fun c l m q => by cases l <;> first | exact absurd q Bool.false_ne_true | exact absurd m Bool.false_ne_true), ni fun b h => h⟩
  | mk a ia => exact ⟨snd_plain rfl (fun X c W co l h => e_mk co (ia.1.pe X c W co) h) (fun _ _ => rfl) (fun _ _ => rfl) (fun _ _ => rfl) (nlc fun c l m q => by cases l <;> first | exact absurd q Bool.false_ne_true | exact absurd m Bool.false_ne_true), ni fun b h => h⟩
  | lrg2 a b ia ib => exact ⟨snd_plain rfl (fun X c W co l h => e_lrg2 co (ia.1.pe X c W co) (ib.1.pe X c W co) h) (fun _ _ => rfl) (fun _ _ => rfl) (fun _ _ => rfl) (nlc fun c l m q => by cases l <;> first | exact absurd q Bool.false_ne_true | exact absurd m Bool.false_ne_true), ni fun b h => h⟩
theorem snd (γ : Str → Option D) (R : Str → Option (List Vl → Mu → Rs Vl)) (k : Nat) (a : E) : Snd γ R k a := (snd_both γ R k a).1
end TL
/-! T14: statements -/
namespace TL
open PySem PySem.Spec L2
set_option autoImplicit false
section
variable (mg : Str → Option Value) (W : WX) (K : PySem.W.Frag)
/-- what a statement's outcome asks -/
def FinS (D : Ends) (P : Addr → Prop) (H : Hp) (as : List Addr) (μ : Mu) (r : RS) : Prop := match r with
  | .nx ρ' μ' => ∀ σ' H' as', Ex P H as μ H' as' μ' → Wd P H' as' μ' → RoOk K P H' as' μ' σ' ρ' → D.nx σ' H'
  | .bk ρ' μ' => ∀ σ' H' as', Ex P H as μ H' as' μ' → Wd P H' as' μ' → RoOk K P H' as' μ' σ' ρ' → D.bk σ' H'
  | .ct ρ' μ' => ∀ σ' H' as', Ex P H as μ H' as' μ' → Wd P H' as' μ' → RoOk K P H' as' μ' σ' ρ' → D.ct σ' H'
  | .rt x μ' => ∀ v H' as', Ex P H as μ H' as' μ' → Wd P H' as' μ' → VlOk P H' as' μ' K H v x → D.rt v H'
  | .exc c μ' => ∀ σ' H' as' C, Ex P H as μ H' as' μ' → Wd P H' as' μ' → mg c = some (.ref C) → W (.ref C) none σ' H'
  | .bad => False
def tXS (f : Ro → Mu → RS) : TS := fun D σ H => ∃ ρ μ P as, Wd P H as μ ∧ RoOk K P H as μ σ ρ ∧ FinS mg W K D P H as μ (f ρ μ)
end
section
variable {mg : Str → Option Value} {W : WX} {K : PySem.W.Frag} {P : Addr → Prop} {σ : L2.St} {H H1 : Hp} {as as1 : List Addr} {μ μ1 : Mu} {α : Type} {D : Ends} {ρ : Ro}
theorem FinS.step {r : RS} (x : Ex P H as μ H1 as1 μ1) (h : FinS mg W K D P H as μ r) : FinS mg W K D P H1 as1 μ1 r := by
  cases r with
  | nx ρ' μ' => exact fun σ' H' as' e w ro => h σ' H' as' (x.trans e) w ro
  | bk ρ' μ' => exact fun σ' H' as' e w ro => h σ' H' as' (x.trans e) w ro
  | ct ρ' μ' => exact fun σ' H' as' e w ro => h σ' H' as' (x.trans e) w ro
  | rt y μ' => exact fun v H' as' e w vo => h v H' as' (x.trans e) w (vo.back x.dom)
  | exc c μ' => exact fun σ' H' as' C e w g => h σ' H' as' C (x.trans e) w g
  | bad => exact h
theorem FinS.st {r : Rs α} {g : α → Mu → RS} (h : FinS mg W K D P H as μ (r.st g)) :
    Fin mg W P σ H as μ r fun a μ1 H1 as1 => Ex P H as μ H1 as1 μ1 ∧ Wd P H1 as1 μ1 ∧ FinS mg W K D P H as μ (g a μ1) := by
  cases r with
  | ok a μ' => exact fun H' as' e w => ⟨e, w, h⟩
  | exc c μ' => exact fun H' as' C e w g => h σ H' as' C e w g
  | bad => exact h
theorem RoOk.set {i : Nat} {v : V} {x : Vl} (h : RoOk K P H as μ σ ρ) (hv : SlOk K P H as μ v x) : RoOk K P H as μ (σ.set i (some v)) (ρ.set i (some x)) := RoBut.nil ((h.but [i]).set hv)
end
/-! ### sides of the syntax -/
section
variable {c : MC}
theorem sw_of {a : E} {e : Expr} (h : mat c a e = true) (hl : isLc e = false) (t : Option Expr) (n : Nat) (env : Env) : swapsWith e t n env = pure false := by
  cases e with
  | ListComp _ _ _ _ => cases hl
  | SetComp _ _ _ _ => cases a <;> (first | exact absurd h Bool.false_ne_true | simp [m_var, m_frz, m_cst, m_glb, m_bin, m_neg, m_not, m_cmp, m_chn, m_and, m_or, m_ife, m_tup, m_lst, m_idx, m_slc, m_rev, m_lc, m_lcf, m_len, m_call, m_bi, m_isi, m_mt, m_app, m_ext, m_pop, m_popAt, m_rvs, m_sset, m_chn3, m_lix, m_upp, m_srk, m_edt, m_idh, m_lol, m_lset, m_mk, m_lrg, m_lrg2, m_nil, m_cons, m_rng, m_zip, m_enm, m_itv] at h)
  | DictComp _ _ _ _ _ => cases a <;> (first | exact absurd h Bool.false_ne_true | simp [m_var, m_frz, m_cst, m_glb, m_bin, m_neg, m_not, m_cmp, m_chn, m_and, m_or, m_ife, m_tup, m_lst, m_idx, m_slc, m_rev, m_lc, m_lcf, m_len, m_call, m_bi, m_isi, m_mt, m_app, m_ext, m_pop, m_popAt, m_rvs, m_sset, m_chn3, m_lix, m_upp, m_srk, m_edt, m_idh, m_lol, m_lset, m_mk, m_lrg, m_lrg2, m_nil, m_cons, m_rng, m_zip, m_enm, m_itv] at h)
  | _ => rfl
theorem sole_of {t e : Expr} (n : Nat) (env : Env) : swapsWithSole [t] e n env = swapsWith e (some t) n env := by
  unfold swapsWithSole
  rfl
theorem sw_sub {o i e : Expr} {p : Pos} (n : Nat) (env : Env) : swapsWithSole [.Subscript o i p] e n env = pure false := by
  cases e <;> rfl
theorem ss_sub {o i e : Expr} {p : Pos} (env : Env) : swappedStores [.Subscript o i p] e env = pure none := by
  cases e <;> rfl
theorem asgIx_of {a : E} {i : Expr} (h : mat c a i = true) (o : Expr) (pos : Pos) (env : Env) : ∀ v, assign (.Subscript o i pos) env v = (do
      let ov ← holding [v] (eval o env)
      let iv ← holding [v, ov] (eval i env)
      standAt pos
      holding [v, ov, iv] (setItem ov iv v)
      release [v, ov, iv] []) := by
  intro v
  cases i with
  | Slice l n p q => cases a <;> (first | exact absurd h Bool.false_ne_true | simp [m_var, m_frz, m_cst, m_glb, m_bin, m_neg, m_not, m_cmp, m_chn, m_and, m_or, m_ife, m_tup, m_lst, m_idx, m_slc, m_rev, m_lc, m_lcf, m_len, m_call, m_bi, m_isi, m_mt, m_app, m_ext, m_pop, m_popAt, m_rvs, m_sset, m_chn3, m_lix, m_upp, m_srk, m_edt, m_idh, m_lol, m_lset, m_mk, m_lrg, m_lrg2, m_nil, m_cons, m_rng, m_zip, m_enm, m_itv] at h)
  | _ => rfl
end
section
variable {X : Cx} {c : MC} {W : WX} {γ : Str → Option D} {R : Str → Option (List Vl → Mu → Rs Vl)} {k : Nat} (co : Co X c W γ R k) (F : Nat)
include co
abbrev rS (X : Cx) (W : WX) (γ : Str → Option D) (R : Str → Option (List Vl → Mu → Rs Vl)) (F : Nat) (a : S) : TS := tXS X.mg W X.K (exec R γ F a)
/-- the reading of «name = e» -/
theorem asg_imp {m : Bool} {i : Nat} {e : E} {D : Ends} {σ : L2.St} {H : Hp} (h : rS X W γ R F (.asg m i e) D σ H) : tAsg (rE X W γ R e) (gName i) D σ H := by
  obtain ⟨ρ, μ, P, as, w, ro, f⟩ := h
  simp only [exec] at f
  refine ⟨ρ, μ, P, as, w, ro, (FinS.st f).mono fun x μ1 H1 as1 _ ⟨e1, w1, f1⟩ v vo => ?_⟩
  show D.nx (σ.set i (some v)) H1
  cases m with
  | false =>
    simp only [Bool.false_eq_true, if_false] at f1
    exact f1 _ H1 as1 e1 w1 ((ro.ex e1).set vo.fz)
  | true =>
    simp only [if_true] at f1
    cases x with
    | fr xs =>
      obtain ⟨p, vs, rfl, h0, hP, hp, hm, t, sp⟩ := vo
      have e2 := e1.push (e := some (.lst xs)) w1 h0 hP
      have w2 := w1.push hP hp hm t sp
      refine f1 _ H1 _ e2 w2 ((ro.ex e2).set ⟨p, ?_, rfl⟩)
      rw [← w1.len, List.getElem?_append_right (Nat.le_refl _), Nat.sub_self]
      rfl
    | dt d => exact f1 _ H1 as1 e1 w1 ((ro.ex e1).set (x := .dt d) vo)
    | _ => exact f1.elim
theorem s_asg {m : Bool} {i : Nat} {e : E} {st : Stmt} (h : matS c (.asg m i e) st = true) : PS X st (rS X W γ R F (.asg m i e)) := by
  simp only [matS] at h
  split at h
  · rename_i x p v pos
    simp only [Bool.and_eq_true] at h
    obtain ⟨⟨h1, h2⟩, h3⟩ := h
    obtain ⟨a1, a2, a3⟩ := co.loc h1
    cases hl : isLc v with
    | false => exact (ps_set co.nd a1 a2 ((snd γ R k e).pe X c W co v h2) (sw_of h2 hl _ _ _) a3).imp fun D σ H q => asg_imp co F q
    | true =>
      by_cases hc : c.look x = some .cell
      · refine (ps_set co.nd a1 a2 ((snd γ R k e).pe X c W co v h2) ?_ a3).imp fun D σ H q => asg_imp co F q
        unfold MC.look at hc
        rw [co.sc] at hc
        cases v with
        | ListComp el gs scope q =>
          have ky : X.env.kindOf x = some .cell := hc
          unfold swapsWith
          simp only [ky]
          rw [show (some NameKind.cell == some NameKind.local) = false from rfl]
          simp only [Bool.and_false, Bool.false_and]
        | _ => cases hl
      · have hloc : c.look x = some .local := by
          unfold locB at h1
          simp only [Bool.and_eq_true, decide_eq_true_eq, Bool.or_eq_true, beq_iff_eq] at h1
          rcases h1.2 with z | z
          · exact z
          · exact (hc z.1).elim
        cases v with
        | ListComp el gs scope q =>
          simp only [hl, Bool.not_true, Bool.false_or, Bool.or_eq_true, beq_iff_eq, hloc, Bool.and_eq_true, Bool.not_eq_true'] at h3
          have h3 : (p.line = q.line) ∧ (scope.names.any fun (n, k) => n == x && (k == .local || k == .cell)) = false := by
            rcases h3 with z | z
            · cases z
            · exact z
          obtain ⟨el', tg, iter, ifs, scope', own, pos', wi, g, tt, te, e0, g1, g2, g3, g4, g5, g6, g7⟩ := ((snd γ R k e).lc X c W co _ h2 rfl).ex
          cases e0
          unfold MC.look at hloc
          rw [co.sc] at hloc
          refine ⟨fun pins s σ H D I q => (ps_setLc co.calm co.nd a1 hloc (sw_true I.ok.kind hloc (by simpa using h3.1) h3.2) g1 g2 g3 g4 g5 g6).run pins s σ H D I ?_⟩
          exact g7 _ _ _ (asg_imp co F q)
        | _ => cases hl
  · cases h
/-- an item of a list of the store is set -/
theorem set_imp {P : Addr → Prop} {H : Hp} {as : List Addr} {μ μ' : Mu} {v o i : V} {x j : Vl} {d : D} {H0 H00 : Hp} {Q : Hp → Prop} (w : Wd P H as μ) (hv : Dm (Mf P as μ) H v d) (ho : VlW P H as μ X.K H0 o x) (hi : VlW P H as μ X.K H00 i j) (h : setF μ x j d = some μ')
    (q : ∀ H', Ex P H as μ H' as μ' → Wd P H' as μ' → Q H') : rSetL o i v H Q := by
  unfold setF at h
  split at h
  · rename_i n k
    split at h
    · rename_i xs hx
      rw [Option.map_eq_some_iff] at h
      obtain ⟨m, hm, rfl⟩ := h
      obtain ⟨p, e1, rfl⟩ := ho
      obtain ⟨vs, e2, t⟩ := w.at e1 hx
      cases hi
      refine ⟨p, vs, k, m, rfl, rfl, e2, by rw [t.length]; exact hm, q _ (Ex.put w e1 hx) (w.put e1 hx (t.set m hv))⟩
    · cases h
  · cases h
theorem s_six {o i e : E} {st : Stmt} (h : matS c (.six o i e) st = true) : PS X st (rS X W γ R F (.six o i e)) := by
  simp only [matS] at h
  split at h
  · rename_i l r p v pos
    simp only [Bool.and_eq_true] at h
    obtain ⟨⟨h1, h2⟩, h3⟩ := h
    refine (ps_asg ((snd γ R k e).pe X c W co v h3) (pg_sub ((snd γ R k o).pe X c W co l h1) ((snd γ R k i).pe X c W co r h2) set_list (asgIx_of h2 l p X.env)) (sw_sub _ _) (ss_sub _)).imp fun D σ H ⟨ρ, μ, P, as, w, ro, f⟩ => ?_
    simp only [exec] at f
    refine ⟨ρ, μ, P, as, w, ro, (FinS.st f).mono fun y μ1 H1 as1 _ ⟨e1, w1, f1⟩ v vo => ?_⟩
    refine ⟨ρ, μ1, P, as1, w1, ro.ex e1, (FinS.st (f1.step e1)).mono fun x μ2 H2 as2 _ ⟨e2, w2, f2⟩ v2 vo2 => ?_⟩
    refine ⟨ρ, μ2, P, as2, w2, (ro.ex e1).ex e2, (FinS.st (f2.step e2)).mono fun j μ3 H3 as3 _ ⟨e3, w3, f3⟩ v3 vo3 => ?_⟩
    split at f3
    · rename_i d hd
      split at f3
      · rename_i μ4 hs
        refine set_imp co w3 (((vo.ex e2).ex e3).dm hd) (vo2.ex e3) vo3.weak hs fun H' ex w' => ?_
        exact (f3.step e3) σ H' as3 ex w' ((((ro.ex e1).ex e2).ex e3).ex ex)
      · exact f3.elim
    · exact f3.elim
  · cases h
theorem s_swp {o1 i1 o2 i2 e : E} {st : Stmt} (h : matS c (.swp o1 i1 o2 i2 e) st = true) : PS X st (rS X W γ R F (.swp o1 i1 o2 i2 e)) := by
  simp only [matS] at h
  split at h
  · rename_i l r p l2 r2 p2 kt pt v pos
    simp only [Bool.and_eq_true, Bool.not_eq_true'] at h
    obtain ⟨⟨⟨⟨⟨h1, h2⟩, h3⟩, h4⟩, h5⟩, h6⟩ := h
    have hw : swappedStores [.Tuple [.Subscript l r p, .Subscript l2 r2 p2] kt pt] v X.env = pure none := by
      cases v with
      | Tuple vs _ _ =>
        unfold swappedStores
        simp
      | _ => rfl
    refine (ps_asg ((snd γ R k e).pe X c W co v h5) (pg_tup co.calm (pgs_cons (pg_sub ((snd γ R k o1).pe X c W co l h1) ((snd γ R k i1).pe X c W co r h2) set_list (asgIx_of h2 l p X.env)) (pgs_cons (pg_sub ((snd γ R k o2).pe X c W co l2 h3) ((snd γ R k i2).pe X c W co r2 h4) set_list (asgIx_of h4 l2 p2 X.env)) pgs_nil))) (by rw [sole_of]; exact sw_of h5 h6 _ _ _) hw).imp fun D σ H ⟨ρ, μ, P, as, w, ro, f⟩ => ?_
    simp only [exec] at f
    refine ⟨ρ, μ, P, as, w, ro, (FinS.st f).mono fun y μ1 H1 as1 _ ⟨e1, w1, f1⟩ v vo => ?_⟩
    split at f1
    · rename_i a b
      have vo : Dm _ _ _ _ := vo
      cases vo with
      | tup g1 g2 g3 =>
        obtain ⟨v1, v2, x1, x2, rfl, q0, d1, d2⟩ := g3.two rfl
        cases q0
        refine ⟨_, _, rfl, .of g1, rfl, _, _, rfl, ?_⟩
        refine ⟨ρ, μ1, P, as1, w1, ro.ex e1, (FinS.st (f1.step e1)).mono fun x μ2 H2 as2 _ ⟨e2, w2, f2⟩ v2 vo2 => ?_⟩
        refine ⟨ρ, μ2, P, as2, w2, (ro.ex e1).ex e2, (FinS.st (f2.step e2)).mono fun j μ3 H3 as3 _ ⟨e3, w3, f3⟩ v3 vo3 => ?_⟩
        split at f3
        · rename_i μ4 hs
          refine set_imp co w3 ((d1.ex e2).ex e3) (vo2.ex e3) vo3.weak hs fun H' ex w' => ?_
          refine ⟨_, _, rfl, ρ, μ4, P, as3, w', (((ro.ex e1).ex e2).ex e3).ex ex, (FinS.st ((f3.step e3).step ex)).mono fun x μ5 H5 as5 _ ⟨e5, w5, f5⟩ v5 vo5 => ?_⟩
          refine ⟨ρ, μ5, P, as5, w5, ((((ro.ex e1).ex e2).ex e3).ex ex).ex e5, (FinS.st (f5.step e5)).mono fun j μ6 H6 as6 _ ⟨e6, w6, f6⟩ v6 vo6 => ?_⟩
          split at f6
          · rename_i μ7 hs7
            refine set_imp co w6 (((((d2.ex e2).ex e3).ex ex).ex e5).ex e6) (vo5.ex e6) vo6.weak hs7 fun H7 ex7 w7 => ?_
            exact ⟨rfl, (f6.step e6) σ H7 as6 ex7 w7 ((((((ro.ex e1).ex e2).ex e3).ex ex).ex e5).ex e6 |>.ex ex7)⟩
          · exact f6.elim
        · exact f3.elim
    · exact f1.elim
  · cases h
end
end TL
/-! T15: statements (on), blocks -/
namespace TL
open PySem PySem.Spec L2
set_option autoImplicit false
theorem ss_of {c : MC} {env : Env} {ts vs : List Expr} {k1 k2 : Nat} {p1 p2 : Pos} {o : Option (List Str)} (hsc : c.sc = env.scope) (hk : env.scope.kind = .function) (h : ssF c ts vs = some o) : swappedStores [.Tuple ts k1 p1] (.Tuple vs k2 p2) env = pure o := by
  have hb : env.blockKind = .function := by unfold Env.blockKind; rw [hk]; rfl
  have hl : ∀ x, c.look x = env.kindOf x := fun x => by unfold MC.look Env.kindOf; rw [hsc]
  unfold ssF at h
  unfold swappedStores
  simp only [hl] at h
  simp only [hb]
  rw [show (ScopeKind.function != ScopeKind.function) = false from rfl, Bool.or_false]
  split at h
  · rename_i h1
    cases h
    exact if_pos h1
  · rename_i h1
    refine (if_neg h1).trans ?_
    split at h
    · rename_i h2
      cases h
      exact if_pos h2
    · rename_i h2
      refine (if_neg h2).trans ?_
      split at h
      · rename_i h3
        cases h
        exact if_pos h3
      · rename_i h3
        refine (if_neg h3).trans ?_
        split at h
        · rename_i h4
          cases h
          exact if_pos h4
        · rename_i h4
          refine (if_neg h4).trans ?_
          split at h
          · cases h
          · rename_i h5
            cases h
            exact if_neg h5
theorem ssN_of {c : MC} {tg v : Expr} {env : Env} (hsc : c.sc = env.scope) (hk : env.scope.kind = .function) {ts0 : List Nat} (ht : matT c ts0 tg = true) (h : swNo c tg v = true) : swappedStores [tg] v env = pure none := by
  cases tg with
  | Tuple ts k p =>
    cases v with
    | Tuple vs k2 p2 =>
      unfold swNo at h
      exact ss_of hsc hk (by simpa using h)
    | _ => rfl
  | Name x p => cases v <;> rfl
  | _ =>
    unfold matT at ht
    split at ht <;> simp_all
/-- a, b, c = x, y, z with plain local names -/
def tPar3 (i j l : Nat) (ta : TA) : TS := fun D σ H => ta σ H fun vs H1 => ∃ u v w, vs = [u, v, w] ∧ D.nx (((σ.set i (some u)).set j (some v)).set l (some w)) H1
section
open PyProof.Rows
theorem ps_par3 {X : Cx} {pos : Pos} {i j l : Nat} {x y z : Str} {a b c : Expr} {ta : TA} {px py pz pt : Pos} {kt k2 pt2} (hc : X.calm = true) (hN : X.N.Nodup) (hi : X.N[i]? = some x) (hj : X.N[j]? = some y) (hl : X.N[l]? = some z) (hij : i ≠ j) (hil : i ≠ l) (hjl : j ≠ l)
    (hx : X.env.scope.names.lookup x = some .local) (hy : X.env.scope.names.lookup y = some .local) (hz : X.env.scope.names.lookup z = some .local) (ha : PA X [a, b, c] ta)
    (hw : swappedStores [.Tuple [.Name x px, .Name y py, .Name z pz] kt pt] (.Tuple [a, b, c] k2 pt2) X.env = pure (some [x, y, z]))
    (hs : swapsWithSole [.Tuple [.Name x px, .Name y py, .Name z pz] kt pt] (.Tuple [a, b, c] k2 pt2) pos.line X.env = pure false := by rfl) :
    PS X (.Assign [.Tuple [.Name x px, .Name y py, .Name z pz] kt pt] (.Tuple [a, b, c] k2 pt2) pos) (tPar3 i j l ta) := by
  refine ⟨fun pins s σ H D I h => ?_⟩
  rw [exec_Assign_arm]
  refine wpAny_bind (wpAny_standAt ?_)
  rw [hs]
  refine wpAny_bind (wpAny_pure ?_)
  rw [if_neg (by decide)]
  refine wpAny_bind (Tuple_ (thn (ha.run _ pins s σ H _ I h) fun us s1 ⟨vs, H1, I1, r1, q1⟩ => ?_))
  obtain ⟨u, v, w, e1, q1⟩ := q1
  subst e1
  obtain ⟨u1, u2, u3, rfl, ru, rv, rw'⟩ : ∃ u1 u2 u3, us = [u1, u2, u3] ∧ RelV u u1 ∧ RelV v u2 ∧ RelV w u3 := by
    cases r1 with
    | cons p q =>
      cases q with
      | cons p' q' =>
        cases q' with
        | cons p'' q'' =>
          cases q''
          exact ⟨_, _, _, rfl, p, p', p''⟩
  refine wpAny_newObj_type ?_ (by show 3 ≤ sizeLine; decide)
  have I2 : L2.Inv X pins σ H1 { s1 with heap := s1.heap.push { cls := .type "tuple", data := .seq [u1, u2, u3].toArray } } := I1.kept (t' := s1.toks) fun b o e => Heap.get?_push_of_some _ e
  rw [hw]
  refine wpAny_bind (wpAny_pure ?_)
  show wpAny (model X.prog X.w) X.A (do rule "assign.swapped-stores"; let items ← unpackItems (.ref s1.heap.objs.size) 3 none; assignInOrder [fun v => bindName X.env z v, fun v => bindName X.env y v, fun v => bindName X.env x v] items.reverse; pure Flow.next) _ _ _
  refine wpAny_bind (wpAny_rule (wpAny_bind (unpackItems_tuple (items := #[u1, u2, u3]) (I.ok.hd hc) (IsTup.new s1.heap _) fun h' hx' => ?_)))
  have I3 := I2.kept (h' := h') (t' := s1.toks) fun b o e => hx' b o (Nat.ne_of_lt (Heap.lt_size e)) e
  show wpAny _ _ (assignInOrder [fun v => bindName X.env z v, fun v => bindName X.env y v, fun v => bindName X.env x v] [u3, u2, u1] >>= fun _ => pure Flow.next) _ _ _
  refine wpAny_bind (assignInOrder_cons (wpAny_bindName (store_ok I3 hN hl (.inl hz) rw' (fun s2 I4 => ?_) (.inr hz))))
  refine assignInOrder_cons (wpAny_bindName (store_ok I4 hN hj (.inl hy) rv (fun s3 I5 => ?_) (.inr hy)))
  refine assignInOrder_cons (wpAny_bindName (store_ok I5 hN hi (.inl hx) ru (fun s4 I6 => assignInOrder_nil (wpAny_pure ?_)) (.inr hx)))
  rw [List.set_comm _ _ (Ne.symm hij), List.set_comm _ _ (Ne.symm hil), List.set_comm _ _ (Ne.symm hjl)] at I6
  exact ⟨_, H1, I6, q1⟩
end
section
variable {X : Cx} {c : MC} {W : WX} {γ : Str → Option D} {R : Str → Option (List Vl → Mu → Rs Vl)} {k : Nat} (co : Co X c W γ R k) (F : Nat)
include co
theorem s_unpL {ts : List Nat} {e : E} {st : Stmt} (h : matS c (.unpL ts e) st = true) : PS X st (rS X W γ R F (.unpL ts e)) := by
  simp only [matS] at h
  split at h
  · rename_i tg v pos
    simp only [Bool.and_eq_true, Bool.not_eq_true', decide_eq_true_eq] at h
    obtain ⟨⟨⟨⟨h1, h3⟩, h2⟩, hl⟩, h4⟩ := h
    refine ⟨fun pins s σ H D I q => (ps_asg ((snd γ R k e).pe X c W co v h2) (pg_ofL co h1 h3) (by rw [sole_of]; exact sw_of h2 hl _ _ _) (ssN_of co.sc I.ok.kind h1 h4) ?_).run pins s σ H D I ?_⟩
    · unfold matT at h1
      split at h1 <;> first | rfl | cases h1
    · obtain ⟨ρ, μ, P, as, w, ro, f⟩ := q
      simp only [exec] at f
      refine ⟨ρ, μ, P, as, w, ro, (FinS.st f).mono fun x μ1 H1 as1 _ ⟨e1, w1, f1⟩ v vo => ?_⟩
      cases hd : x.data with
      | none => rw [hd] at f1; exact f1.elim
      | some d =>
        rw [hd] at f1
        cases d with
        | list ds =>
          simp only at f1
          split at f1
          · rename_i ρ1 hb
            exact g_runL h3 (tgOk_of h1) ((ro.ex e1).but ts) (vo.dm hd) hb fun σ1 ro1 => f1 σ1 H1 as1 e1 w1 ro1
          · exact f1.elim
        | _ => exact f1.elim
  · cases h
theorem s_unp {ts : List Nat} {e : E} {st : Stmt} (h : matS c (.unp ts e) st = true) : PS X st (rS X W γ R F (.unp ts e)) := by
  simp only [matS] at h
  split at h
  · rename_i tg v pos
    simp only [Bool.and_eq_true, Bool.not_eq_true', Bool.or_eq_true] at h
    obtain ⟨⟨⟨h1, h2⟩, h3⟩, h4⟩ := h
    rcases h4 with h4 | h4
    · refine ⟨fun pins s σ H D I q => (ps_asg ((snd γ R k e).pe X c W co v h2) (pg_of co h1) (by rw [sole_of]; exact sw_of h2 h3 _ _ _) (ssN_of co.sc I.ok.kind h1 h4) ?_).run pins s σ H D I ?_⟩
      · unfold matT at h1
        split at h1 <;> first | rfl | cases h1
      · obtain ⟨ρ, μ, P, as, w, ro, f⟩ := q
        simp only [exec] at f
        refine ⟨ρ, μ, P, as, w, ro, (FinS.st f).mono fun x μ1 H1 as1 _ ⟨e1, w1, f1⟩ v vo => ?_⟩
        cases x with
        | dt d =>
          simp only at f1
          split at f1
          · rename_i ρ1 hb
            exact g_run (tgOk_of h1) ((ro.ex e1).but ts) vo hb fun σ1 ro1 _ _ => f1 σ1 H1 as1 e1 w1 ro1
          · exact f1.elim
        | _ => exact f1.elim
    · unfold swYes at h4
      have tup : ∀ {es : List Expr} {k : Nat} {p : Pos}, mat c e (.Tuple es k p) = true → ∃ a, e = .tup a ∧ matL c a es = true := fun {es k p} h => by
        cases e <;> (first | exact absurd h Bool.false_ne_true | simp [m_var, m_frz, m_cst, m_glb, m_bin, m_neg, m_not, m_cmp, m_chn, m_and, m_or, m_ife, m_tup, m_lst, m_idx, m_slc, m_rev, m_lc, m_lcf, m_len, m_call, m_bi, m_isi, m_mt, m_app, m_ext, m_pop, m_popAt, m_rvs, m_sset, m_chn3, m_lix, m_upp, m_srk, m_edt, m_lset, m_mk, m_lrg, m_lrg2, m_nil, m_cons, m_rng, m_zip, m_enm, m_itv] at h)
        exact ⟨_, rfl, h.1⟩
      split at h4
      · rename_i x p y q kt pt a b k2 p2
        simp only [Bool.and_eq_true, beq_iff_eq] at h4
        obtain ⟨⟨hx, hy⟩, hs⟩ := h4
        obtain ⟨es, rfl, hes⟩ := tup h2
        have hts : ∃ i j, ts = [i, j] ∧ locB c i x = true ∧ locB c j y = true ∧ i ≠ j := by
          unfold matT at h1
          split at h1
          · simp_all
          · rename_i e1
            cases e1
            simp only [Bool.and_eq_true, decide_eq_true_eq] at h1
            exact ⟨_, _, rfl, h1.1.1, h1.1.2, h1.2⟩
          · simp_all
          · cases h1
        obtain ⟨i, j, rfl, l1, l2, hij⟩ := hts
        unfold MC.look at hx hy
        rw [co.sc] at hx hy
        refine ⟨fun pins s σ H D I z => (ps_par co.calm co.nd (co.loc l1).1 (co.loc l2).1 hij hx hy ((snd γ R k es).pa X c W co _ hes) (ss_of co.sc I.ok.kind hs) rfl).run pins s σ H D I ?_⟩
        obtain ⟨ρ, μ, P, as, w, ro, f⟩ := z
        simp only [exec, ev] at f
        refine ⟨ρ, μ, P, as, w, ro, ?_⟩
        cases q0 : evL R γ es ρ μ with
        | ok xs μ1 =>
          rw [q0] at f
          intro H1 as1 e1 w1 vs vos
          simp only [Rs.bind] at f
          cases q1 : datas [] (xs.map Vl.fz) with
          | none => rw [q1] at f; exact f.elim
          | some ds =>
            rw [q1] at f
            simp only [Option.map_some, Rs.of, Rs.st] at f
            have t := datas_nil_data q1 vos
            split at f
            · rename_i ρ1 hb
              simp only [bindT] at hb
              split at hb
              · rename_i hl
                cases hb
                obtain ⟨v1, v2, x1, x2, rfl, rfl, d1, d2⟩ := t.two hl
                exact ⟨v1, v2, rfl, f _ H1 as1 e1 w1 (((ro.ex e1).set (x := .dt x1) d1).set (x := .dt x2) d2)⟩
              · cases hb
            · exact f.elim
        | exc cc μ1 => rw [q0] at f; exact fun H' as' C e w g => f σ H' as' C e w g
        | bad => rw [q0] at f; exact f.elim
      · rename_i x p y q z r kt pt a b d k2 p2
        simp only [Bool.and_eq_true, beq_iff_eq] at h4
        obtain ⟨⟨⟨hx, hy⟩, hz⟩, hs⟩ := h4
        obtain ⟨es, rfl, hes⟩ := tup h2
        have hts : ∃ i j l, ts = [i, j, l] ∧ locB c i x = true ∧ locB c j y = true ∧ locB c l z = true ∧ i ≠ j ∧ i ≠ l ∧ j ≠ l := by
          unfold matT at h1
          split at h1
          · simp_all
          · simp_all
          · rename_i e1
            cases e1
            simp only [Bool.and_eq_true, decide_eq_true_eq] at h1
            exact ⟨_, _, _, rfl, h1.1.1.1.1.1, h1.1.1.1.1.2, h1.1.1.1.2, h1.1.1.2, h1.1.2, h1.2⟩
          · cases h1
        obtain ⟨i, j, l, rfl, l1, l2, l3, hij, hil, hjl⟩ := hts
        unfold MC.look at hx hy hz
        rw [co.sc] at hx hy hz
        refine ⟨fun pins s σ H D I z => (ps_par3 co.calm co.nd (co.loc l1).1 (co.loc l2).1 (co.loc l3).1 hij hil hjl hx hy hz ((snd γ R k es).pa X c W co _ hes) (ss_of co.sc I.ok.kind hs) rfl).run pins s σ H D I ?_⟩
        obtain ⟨ρ, μ, P, as, w, ro, f⟩ := z
        simp only [exec, ev] at f
        refine ⟨ρ, μ, P, as, w, ro, ?_⟩
        cases q0 : evL R γ es ρ μ with
        | ok xs μ1 =>
          rw [q0] at f
          intro H1 as1 e1 w1 vs vos
          simp only [Rs.bind] at f
          cases q1 : datas [] (xs.map Vl.fz) with
          | none => rw [q1] at f; exact f.elim
          | some ds =>
            rw [q1] at f
            simp only [Option.map_some, Rs.of, Rs.st] at f
            have t := datas_nil_data q1 vos
            split at f
            · rename_i ρ1 hb
              simp only [bindT] at hb
              split at hb
              · rename_i hl
                cases hb
                obtain ⟨v1, v2, v3, x1, x2, x3, rfl, rfl, d1, d2, d3⟩ := t.three hl
                exact ⟨v1, v2, v3, rfl, f _ H1 as1 e1 w1 ((((ro.ex e1).set (x := .dt x1) d1).set (x := .dt x2) d2).set (x := .dt x3) d3)⟩
              · cases hb
            · exact f.elim
        | exc cc μ1 => rw [q0] at f; exact fun H' as' C e w g => f σ H' as' C e w g
        | bad => rw [q0] at f; exact f.elim
      · cases h4
  · cases h
end
end TL
/-! T15b: try .. except .. as a name that a comprehension holds -/
namespace TL
open PySem PySem.Spec L2 PyProof.Rows
set_option autoImplicit false
section
variable {X : Cx} {pins : List (Addr × Obj)} {σ : L2.St} {H : Hp} {s : Shared}
/-- the name of an except clause goes, its cell is empty behind it -/
theorem gone_cell {M : Model} {A : Around} {E : Value → Shared → Prop} {i : Nat} {n : Str} {pos : Pos} {Q : Unit → Shared → Prop} (I : L2.Inv X pins σ H s) (hN : X.N.Nodup) (hi : X.N[i]? = some n) (hk : X.env.kindOf n = some .cell) (hfn : X.fn n = true)
    (h : ∀ s', L2.Inv X pins (σ.set i none) H s' → Q () s') : wpAny M A (do bindName X.env n .none; unbindBehindTheSuite X.env n pos) Q E s := by
  have hiσ : i < σ.length := by rw [I.len]; exact (List.getElem?_eq_some_iff.mp hi).1
  have vis : Vis X.env.scope n := .inr (.inl hk)
  refine wpAny_bind (wpAny_bindName (store_ok (v := .non) I hN hi (.inr hk) rfl (fun s1 I1 => ?_) (.inl hfn)))
  obtain ⟨m, hn, hl⟩ := id I1.loc
  obtain ⟨c, hc⟩ := I1.ok.has n (.inl hk)
  obtain ⟨u, ru, lk⟩ := hl i n .non hi (by rw [List.getElem?_set_self hiσ]) vis
  have z : s1.heap.IsCell c (some u) := by
    rcases lk with ⟨k1, _⟩ | ⟨_, c', e', z⟩
    · rw [hk] at k1
      cases k1
    · rw [hc] at e'
      cases e'
      exact z
  unfold unbindBehindTheSuite
  refine wpAny_onRaise ?_
  unfold unbindName
  refine wpAny_bind (wpAny_point (wpAny_bind ?_))
  unfold deleteName
  simp only [hk]
  refine wpAny_bind (wpAny_cellOf hc (wpAny_bind (wpAny_cellGet z ?_)))
  rw [show (some u).isSome = true from rfl, if_pos rfl]
  refine wpAny_cellSet z fun h1 z1 sb => wpAny_point (h _ ?_)
  have cne := I1.cne
  have low : ∀ b o, X.s_0.heap.get? b = some o → b ≠ c := fun b o e => Nat.ne_of_lt (Nat.lt_of_lt_of_le (Heap.lt_size e) (I1.ok.cab n c hfn hc))
  obtain ⟨oc, hoc, hocd⟩ := id z
  have hks : HOk X.prog X.w H h1 := fun b ob e => by
    have fr : H c = none := I1.freeC n c hc
    refine (I1.hok b ob e).stay (fun d w' hd q => (sb.2 d fun ed => ?_).trans q) (fun _ q => q) fun _ _ q => q
    subst ed
    rcases hd with rfl | hd
    · rw [fr] at e
      cases e
    · rw [fr] at hd
      cases hd
  refine ⟨I1.ok, I1.os, I1.bare, ⟨fun b o e nn hb hx => (sb.2 b (low b o e)).trans (I1.base.keep b o e nn hb hx), fun b o e nn hb hx => ?_, I1.base.free, fun b o e hx => ?_, I1.base.tups, I1.base.frzs, I1.base.tbls⟩, ⟨m, hn.sameBut sb (Ne.symm (cne n c hc)), fun j y v' e1 e2 e3 => ?_⟩, fun y c' e => ?_, I1.free, I1.freeC, fun p hp => ?_, hks, by simpa using I1.len⟩
  · obtain ⟨sl, q⟩ := I1.base.slot b o e nn hb hx
    exact ⟨sl, (sb.2 b (low b o e)).trans q⟩
  · obtain ⟨o', q⟩ := I1.base.there b o e hx
    exact ⟨o', (sb.2 b (low b o e)).trans q⟩
  · by_cases hj : j = i
    · subst hj
      rw [List.getElem?_set_self hiσ] at e2
      cases e2
    · rw [List.getElem?_set_ne (Ne.symm hj)] at e2
      obtain ⟨u', r', q⟩ := hl j y v' e1 (by rw [List.getElem?_set_ne (Ne.symm hj)]; exact e2) e3
      refine ⟨u', r', ?_⟩
      rcases q with q | ⟨k', d, e, z'⟩
      · exact .inl q
      · refine .inr ⟨k', d, e, z'.sameBut sb ?_⟩
        rintro rfl
        exact hj (nodup_ix hN e1 (I1.ok.inj _ _ _ e hc ▸ hi))
  · by_cases hd : c' = c
    · subst hd
      exact ⟨_, z1⟩
    · obtain ⟨w2, z2⟩ := I1.cell y c' e
      exact ⟨w2, z2.sameBut sb hd⟩
  · obtain ⟨e, q1, q2, q3, q4⟩ := I1.pin p hp
    refine ⟨(sb.2 p.1 ?_).trans e, q1, q2, q3, q4⟩
    intro q
    rw [q, hoc] at e
    exact q4 (some u) (by rw [← Option.some.inj e]; exact hocd)
end
section
variable {X : Cx} {x n : Str} {c : Value} {i : Nat} {body suite : List Stmt} {b₀ : Stmt} {np pos pos' : Pos} {tb : WX → TS} {ts : Addr → Value → Option Addr → TS} {Wo : WX}
/-- try: body, except x as n: suite, where n stands in a cell -/
theorem ps_tryC (est : X.stack = X.env :: X.outer) (efr : X.env.frame = some X.env.locals) (nd : X.N.Nodup) (ei : X.N[i]? = some n) (ek : (X.env.kindOf n = some .cell ∧ X.fn n = true) ∨ X.env.kindOf n = some .local) (ex : Names X x c) (tk : L2N.Takes X Wo)
    (pb : ∀ (W : WX) (pn : List (Addr × Obj)) (xe : Value → Shared → Prop), L2N.Takes (X.tr pn xe) W → PassesOwn (model X.prog X.w) X.A X.env xe → PSs (X.tr pn xe) body (tb W))
    (ps : ∀ (a : Addr) (oe : Obj) (cls : Value) (d : Option Addr) (pn : List (Addr × Obj)), L2N.Zn cls d oe → (∃ vs, oe.data = .fields vs) → PSs (X.suite a ((a, oe) :: pn)) (b₀ :: suite) (ts a cls d)) :
    PS X (.Try body [.ExceptHandler (some (.Name x np)) (some n) (b₀ :: suite) pos'] [] [] pos) (fun D σ H => tb (wAs X.K c i ts Wo D) D σ H) := by
  refine ⟨fun pins s σ H D I h => ?_⟩
  have good := I.ok
  have eA : X.A.frames = some (X.env :: X.outer) := by rw [good.frames, est]
  refine wpAny_Try_except ?_
  let xe' : Value → Shared → Prop := fun e t1 => wpAny (model X.prog X.w) X.A (noteFrame e X.env) (fun _ t2 => wpAny (model X.prog X.w) X.A (setFlight e none) (fun _ t3 =>
    wpAny (model X.prog X.w) X.A (handleBy e X.env [.ExceptHandler (some (.Name x np)) (some n) (b₀ :: suite) pos']) (SP X pins D) X.xe t3) X.xe t2) X.xe t1
  refine wpAny_mono ((pb (wAs X.K c i ts Wo D) (X.pn ++ pins) xe' (fun u t xx => ?_) PassesOwn.looking).run [] s σ H D (I.toTry _) h) (fun f t1 sp => ?_) (fun e t1 he => he)
  · obtain ⟨a, B, sI, pins1, σ1, H1, cls, d, rfl, J0, nb, up, sk, na, os, ag, b, b1, yes, no⟩ := xx
    have J : L2.Inv X pins σ1 H1 sI := J0.ofTry good
    have sk1 : Sky B (X.env :: X.outer) a (L2N.Zn cls d) X.env.locals t.heap := by rw [← est]; exact sk
    show wpAny (model X.prog X.w) X.A (noteFrame (.ref a) X.env) _ _ _
    refine L2N.Sky.land L2N.Zn.steady eA efr sk1 fun h3 fy up3 => ?_
    have J3 : L2.Inv X pins σ1 H1 { t with heap := h3 } := J.landed nb fy.1 (up.trans up3) os ag
    obtain ⟨o3, vs3, g3, z3, d3⟩ := fy.there
    have apart : ∀ {hh : Heap} {o : Obj} {vs : Array Value}, hh.FunFrames B (X.env :: X.outer) → hh.get? a = some o → o.data = .fields vs → a ∉ frs (X.env :: X.outer) := fun {hh o vs} ff e dd mm => by
      obtain ⟨_, o', e', nf⟩ := ff.mem mm
      rw [e] at e'
      cases e'
      exact nf _ dd
    have nfr := apart fy.2.2.1 g3 d3
    have nL : a ≠ X.env.locals := fun z => nfr (List.mem_filterMap.mpr ⟨X.env, List.mem_cons_self, by rw [efr, z]⟩)
    have nF : a ∉ X.fs := fun mm => by
      obtain ⟨e, he, q⟩ := List.mem_filterMap.mp mm
      exact nfr (List.mem_filterMap.mpr ⟨e, List.mem_cons_of_mem _ he, q⟩)
    have S3 := J3.suite g3 d3 na nL nF
    refine wpAny_handleBy_cons (codeAny_handlers_test ?_) (by intro q; cases q)
    have lt : PySem.W.Looks (model X.prog X.w) h3 (typeOf (.ref a)) cls := fun A Q E s k q => wpAny_typeOf_ref (k _ _ g3) (by rw [z3.1]; exact q)
    have lm := PySem.W.exm_one (M := model X.prog X.w) (J3.kIn) lt b1
    have named : ∀ {Q : Value → Shared → Prop} {E : Value → Shared → Prop}, Q c { t with heap := h3 } → wpAny (model X.prog X.w) (X.A.mark (some (.ref a))) (eval (.Name x np) X.env) Q E { t with heap := h3 } := fun {Q E} q => by
      obtain ⟨hg, hdbg, hm | ⟨hm, hv, hnn⟩⟩ := ex
      · exact ld_glob (X := X.suite a ((a, o3) :: (X.pn ++ pins))) S3 hg hm q hdbg
      · exact ld_blt (X := X.suite a ((a, o3) :: (X.pn ++ pins))) S3 hg hm hv q hnn hdbg
    refine named (lm.here ?_)
    cases b with
    | true =>
      refine codeAny_handlers_suite_as ?_
      refine HandSPX.lands_againZ fy fun h4 fz up4 => ?_
      have J4 : L2.Inv X pins σ1 H1 { t with heap := h4 } := J.landed nb fz.1 ((up.trans up3).trans up4) os ag
      obtain ⟨o4, vs4, g4, z4, d4⟩ := fz.there
      have S4 := J4.suite g4 d4 na nL nF
      refine store_ok (X := X.suite a ((a, o4) :: (X.pn ++ pins))) (v := .ref a) S4 nd ei (ek.elim (fun z => .inr z.1) .inl) rfl (fun t5 S5 => ?_) (ek.elim (fun z => .inl z.2) .inr)
      refine wpAny_mono ((ps a o4 cls d (X.pn ++ pins) z4 ⟨_, d4⟩).run [] t5 _ H1 _ S5 (yes rfl a na)) (fun f t6 sp => ?_) (fun _ _ z => False.elim z)
      have fin : ∀ {σ6 : L2.St} {H6 : Hp} {Q : Shared → Prop}, L2.Inv (X.suite a ((a, o4) :: (X.pn ++ pins))) [] σ6 H6 t6 → (∀ t7, L2.Inv X pins (σ6.set i none) H6 t7 → Q t7) →
          wpAny (model X.prog X.w) X.A (do bindName X.env n .none; unbindBehindTheSuite X.env n pos') (fun _ t7 => Q t7) X.xe t6 := fun {σ6 H6 Q} S6 hq => ek.elim (fun z => gone_cell (S6.unsuite good) nd ei z.1 z.2 hq) fun z => gone_ok (S6.unsuite good) nd ei z hq
      cases f with
      | next =>
        obtain ⟨σ6, H6, S6, q6⟩ := sp
        exact fin S6 fun t7 J7 => ⟨_, _, J7, q6⟩
      | brk =>
        obtain ⟨σ6, H6, S6, q6⟩ := sp
        exact fin S6 fun t7 J7 => ⟨_, _, J7, q6⟩
      | cont =>
        obtain ⟨σ6, H6, S6, q6⟩ := sp
        exact fin S6 fun t7 J7 => ⟨_, _, J7, q6⟩
      | ret u =>
        obtain ⟨v6, σ6, H6, S6, r6, q6⟩ := sp
        exact fin S6 fun t7 J7 => ⟨_, _, _, J7, r6, q6⟩
    | false =>
      show wpAny _ X.A (handleBy (.ref a) X.env []) _ _ _
      refine wpAny_handleBy_nil ?_
      obtain ⟨k1, k2, k3, oe, vs, T, oT, ts', he, hz, hd, h1, hr⟩ := id fy
      unfold PySem.passOn
      refine wpAny_bind (wpAny_field he hd h1 ?_)
      rw [if_neg (by simp : ¬ ((Value.ref T == Value.none) = true))]
      have on : wpAny (model X.prog X.w) X.A (setFlight (.ref a) X.env.frame) (fun _ t4 => wpAny (model X.prog X.w) X.A (throw (.ref a) : Sem Flow) (SP X pins D) X.xe t4) X.xe { t with heap := h3 } := by
        rw [efr]
        refine HandSPX.setFlight_upZ fy fun h4 hh4 up4 => wpAny_throw (tk _ _ ?_)
        exact ⟨a, B, sI, pins, σ1, H1, cls, d, rfl, J, nb, (up.trans up3).trans up4, .inr (.inr (by rw [est]; exact hh4)), na, os, ag, no rfl⟩
      first
        | exact wpAny_bind on
        | exact wpAny_bind (wpAny_pure (wpAny_bind on))
  · cases f with
    | next =>
      obtain ⟨σ', H', J', q⟩ := sp
      exact wpAny_execs_nil ⟨σ', H', J'.ofTry good, q⟩
    | brk =>
      obtain ⟨σ', H', J', q⟩ := sp
      exact ⟨σ', H', J'.ofTry good, q⟩
    | cont =>
      obtain ⟨σ', H', J', q⟩ := sp
      exact ⟨σ', H', J'.ofTry good, q⟩
    | ret u =>
      obtain ⟨v, σ', H', J', r, q⟩ := sp
      exact ⟨v, σ', H', J'.ofTry good, r, q⟩
end
end TL
/-! T15c: a comprehension in an except suite -/
namespace TL
open PySem PySem.Spec L2 PyProof.Rows L2H
set_option autoImplicit false
/-- a block's context that bears the handled exception -/
abbrev blkH (X : Cx) (p : Addr × Obj) (s : Shared) (H : Hp) (scope : Scope) (ce : Env) (fp : List Addr) : Cx := { X.blk s H scope ce fp with pn := [p] }
theorem blkH_hot {X : Cx} {p : Addr × Obj} {s : Shared} {H : Hp} {scope : Scope} {ce : Env} {fp : List Addr} (h : Hot1 X.A p) : HotC (blkH X p s H scope ce fp) := ⟨p, h, List.mem_singleton.mpr rfl⟩
section
variable {X : Cx}
theorem inv_blkH {p : Addr × Obj} {s0 : Shared} {H0 : Hp} {scope : Scope} {ce : Env} {fp : List Addr} {pins : List (Addr × Obj)} {σ : L2.St} {H : Hp} {s : Shared} (I : L2.Inv (X.blk s0 H0 scope ce fp) pins σ H s)
    (hp : s.heap.get? p.1 = some p.2 ∧ H p.1 = none ∧ p.1 ≠ ce.locals ∧ p.1 ∉ frs X.stack ∧ ∀ v, p.2.data ≠ .cell v) : L2.Inv (blkH X p s0 H0 scope ce fp) pins σ H s where
  ok := { I.ok with }
  os := I.os
  bare := I.bare
  base := I.base
  loc := I.loc
  cell := I.cell
  free := I.free
  freeC := I.freeC
  pin := fun q hq => by
    rcases List.mem_append.mp hq with z | z
    · have : q = p := List.mem_singleton.mp z
      subst this
      exact hp
    · exact I.pin q (List.mem_append_right _ z)
  hok := I.hok
  len := I.len
theorem lc_hot {p : Addr × Obj} {pins : List (Addr × Obj)} {s : Shared} {σ : L2.St} {H : Hp} {Q : VK} {elt tg iter : Expr} {ifs : List Expr} {scope : Scope} {own : List (Str × Nat)} {pos pos' : Pos} {wi : TI} {g : TG} {tt : TT} {te : TE}
    (hot : Hot1 X.A p) (hpn : p ∈ X.pn) (nd : X.N.Nodup) (I : L2.Inv X pins σ H s) (hi : PIH X tg iter wi) (ok : BlkOk X.N X.env.scope scope own)
    (hg : ∀ (s : Shared) (H : Hp) (C : Addr) (cl : List (Str × Addr)) (fp : List Addr), PG (blkH X p s H scope (compEnvC scope cl C X.env) fp) tg g) (ht : ∀ (s : Shared) (H : Hp) (C : Addr) (cl : List (Str × Addr)) (fp : List Addr), PTs (blkH X p s H scope (compEnvC scope cl C X.env) fp) ifs tt)
    (he : ∀ (s : Shared) (H : Hp) (C : Addr) (cl : List (Str × Addr)) (fp : List Addr), PE (blkH X p s H scope (compEnvC scope cl C X.env) fp) elt te) (hs : ∀ x, foldedSetIterable iter X.env x = pure x)
    (h : tLc wi g tt te (own.map (·.2)) σ H Q) : wpAny (model X.prog X.w) X.A (eval (.ListComp elt [⟨tg, iter, ifs, 0⟩] scope pos) X.env) (EP X pins σ Q) X.xe s := by
  rw [eval_ListComp]
  have fr : ∀ y ∈ scope.names, y.2 = .free → ∃ c, X.env.cells.lookup y.1 = some c := fun y hy e => (ok.free y hy e).elim (fun k => I.ok.has _ (.inl k)) fun k => I.ok.has _ (.inr k)
  refine wpAny_comprehension_free (use := none) rfl hs (closure_ok fr) ok.kind (fun y hy e => by rw [ok.uniq y hy, e]) (thn (hi.run pins s σ H _ I h) fun xv s1 hx => thn hx fun itv s2 h2 => ?_)
  obtain ⟨it, fp, tn, J, H2, e, I2, T, st2, f2, q⟩ := h2
  subst e
  refine wpAny_newObj_type (newEnv_comp ?_) (by show 0 ≤ sizeLine; decide)
  generalize hD : s2.heap.objs.size = D
  have nD : H2 D = none := I2.hok.fresh (Nat.le_of_eq hD)
  obtain ⟨W, ⟨m0, w0⟩, turn⟩ := q D nD
  obtain ⟨s3, hs3⟩ : ∃ s3 : Shared, s3 = { s2 with heap := s2.heap.push { cls := .type "list", data := .seq ([] : List Value).toArray } } := ⟨_, rfl⟩
  have I3 : L2.Inv X pins σ (upd H2 D (.lst [])) s3 := by
    rw [hs3]
    refine I2.laid (t' := s2.toks) (fun b o e => Heap.get?_push_of_some _ e) (Nat.le_of_eq hD) ⟨Nat.zero_le _, [], 0, .nil, ?_⟩
    rw [← hD]
    exact Heap.get?_push_size _ rfl
  have h3 : s3.heap = s2.heap.push { cls := .type "list", data := .seq ([] : List Value).toArray } := by rw [hs3]
  have f3 : ∀ b ∈ fp, FpOk X pins (upd H2 D (.lst [])) b ∧ b < s3.heap.objs.size := fun b hb => by
    obtain ⟨o, e, _⟩ := T.obj _ _ st2 b hb
    have bl : b < s2.heap.objs.size := Heap.lt_size e
    refine ⟨⟨?_, (f2 b hb).2⟩, by rw [h3, Heap.size_push]; exact Nat.lt_succ_of_lt bl⟩
    rw [upd_ne (by rw [← hD]; exact Nat.ne_of_lt bl)]
    exact (f2 b hb).1
  have st3 : tn 0 s3.heap := T.keep _ _ _ st2 fun b _ o e => by rw [h3]; exact Heap.get?_push_of_some _ e
  have pp := I3.pin p (List.mem_append_left _ hpn)
  have I4 := block_start I3 ok nd f3
  have pg := hg s3 (upd H2 D (.lst [])) s3.heap.objs.size (cellsFrom (s3.heap.objs.size + 1) scope.names (cloFrom X.env.cells scope.names [])) fp
  have pt := ht s3 (upd H2 D (.lst [])) s3.heap.objs.size (cellsFrom (s3.heap.objs.size + 1) scope.names (cloFrom X.env.cells scope.names [])) fp
  have pe := he s3 (upd H2 D (.lst [])) s3.heap.objs.size (cellsFrom (s3.heap.objs.size + 1) scope.names (cloFrom X.env.cells scope.names [])) fp
  rw [← hs3]
  show codeAny _ _ (.compStart (.ListComp elt [⟨tg, iter, ifs, 0⟩] scope pos) 0 (.ref it) (.ref D) (compEnvC scope (cellsFrom (s3.heap.objs.size + 1) scope.names (cloFrom X.env.cells scope.names [])) s3.heap.objs.size X.env)) (compPost (model X.prog X.w) X.A X.xe none (EP X pins σ Q) (.ref D) s3.heap.objs.size) { s3 with heap := pushCells (s3.heap.push { cls := .type "dict", data := .dict #[] }) scope.names }
  have nfp : ∀ b ∈ fp, (upd H2 D (.lst [])) b = none := fun b hb => (f3 b hb).1.1
  generalize hce : compEnvC scope (cellsFrom (s3.heap.objs.size + 1) scope.names (cloFrom X.env.cells scope.names [])) s3.heap.objs.size X.env = ce at I4 pg pt pe ⊢
  have cL : ce.locals = s3.heap.objs.size := by subst hce; rfl
  generalize hH3 : upd H2 D (.lst []) = H3 at I3 I4 pg pt pe w0 nfp f3 pp
  generalize hs4 : ({ s3 with heap := pushCells (s3.heap.push { cls := .type "dict", data := .dict #[] }) scope.names } : Shared) = s4 at I4 ⊢
  have k4 : ∀ b o, s3.heap.get? b = some o → s4.heap.get? b = some o := fun b o e => by rw [← hs4]; exact pushCells_keeps _ _ _ _ (Heap.get?_push_of_some _ e)
  have st4 : tn 0 s4.heap := T.keep _ _ _ st3 fun b _ o e => k4 b o e
  have hstk : p.1 ∉ frs X.stack := by
    rcases I3.ok.stk with z | ⟨z, zf⟩
    · rw [z]; exact pp.2.2.2.1
    · rw [z]
      intro hm
      obtain ⟨e, he, qe⟩ := List.mem_filterMap.mp hm
      rcases List.mem_cons.mp he with rfl | he
      · rw [zf] at qe
        exact pp.2.2.1 (Option.some.inj qe).symm
      · exact pp.2.2.2.1 (List.mem_filterMap.mpr ⟨e, he, qe⟩)
  have I4' : L2.Inv (blkH X p s3 H3 scope ce fp) [] (wipe σ (own.map (·.2))) H3 s4 := inv_blkH I4 ⟨k4 _ _ pp.1, pp.2.1, by rw [cL]; exact Nat.ne_of_lt (Heap.lt_size pp.1), hstk, pp.2.2.2.2⟩
  have hC : HotC (blkH X p s3 H3 scope ce fp) := blkH_hot hot
  have stat : ∀ {σ' : L2.St} {H' : Hp} {s' : Shared}, L2.Inv (blkH X p s3 H3 scope ce fp) [] σ' H' s' → (∀ b ∈ fp, H' b = none) → ∀ b ∈ fp, FpOk (blkH X p s3 H3 scope ce fp) [] H' b := fun {σ' H' s'} I' hn b hb =>
    ⟨hn b hb, (I'.ok.exf b hb).1, I'.ok.exfs b hb, .inl hb, fun x c e => (I'.ok.exf b hb).2 x c e, fun r hr => by
      have : r = p := by simpa using hr
      subst this
      exact fun z => (f3 b hb).1.2.2.2.2.2 r (List.mem_append_left _ hpn) z⟩
  have loop : codeAny (model X.prog X.w) X.A (.compLoop (.ListComp elt [⟨tg, iter, ifs, 0⟩] scope pos) 0 (.ref it) (.ref D) ce) (compPost (model X.prog X.w) X.A X.xe none (EP X pins σ Q) (.ref D) s3.heap.objs.size) s4 := by
    refine compLoop_any (fun k s' => ∃ i H', L2.Inv (blkH X p s3 H3 scope ce fp) [] (wipe σ (own.map (·.2))) H' s' ∧ tn i s'.heap ∧ (∀ b ∈ fp, H' b = none) ∧ W i k H') ?_ m0 ⟨0, H3, I4', st4, nfp, w0⟩
    rintro k s5 ⟨i, H5, I5, st5, n5, w5⟩
    rcases turn i k H5 w5 with ⟨stop, qq⟩ | ⟨go, Nx, hNx, step⟩
    · have td := T.done (blkH X p s3 H3 scope ce fp) rfl rfl rfl hC i [] s5 _ H5 (fun _ _ => False) I5 (stat I5 n5) st5 stop
      refine thnF td fun r s6 ⟨hr, I6⟩ => ?_
      subst hr
      have I7 : L2.Inv X pins σ H5 s6 := I3.call' (ch := fp) I6.os I6.base I6.hok I6.bare fun b hb => ⟨(f3 b hb).1.2.2.2.1, (f3 b hb).1.2.1, (f3 b hb).1.2.2.2.2.1, (f3 b hb).1.2.2.2.2.2⟩
      have nC : H5 s3.heap.objs.size = none := by
        have z : H5 ce.locals = none := I6.free
        rwa [cL] at z
      obtain ⟨m, hn, _⟩ := I6.loc
      have hn : s6.heap.Ns ce.locals m := hn
      rw [cL] at hn
      obtain ⟨a0, a1, a2, a3, a4, a5⟩ := I3.fpOk (Nat.le_refl _) nC
      exact ⟨m, hn, fun h'' sb => ⟨.ref D, H5, I7.turned (t' := s6.toks) (fun b o hb e => (sb.2 b hb).trans e) a0 a1 a3 a4 a5, rfl, qq⟩⟩
    · have ti := T.item (blkH X p s3 H3 scope ce fp) rfl rfl rfl hC i [] s5 _ H5 (fun _ _ => False) I5 (stat I5 n5) st5 go
      refine thnF ti fun r s6 ⟨u, hr, h6⟩ => ?_
      subst hr
      refine thnF h6 fun _ s7 ⟨x, H7, I7, r7, y7, st7, n7⟩ => ?_
      have I7' := I7.pinned (stat I7 n7) (T.obj _ _ st7)
      refine thnF (pg.run _ s7 _ H7 x u _ I7' r7 (step x H7 y7)) fun _ s8 ⟨σ8, H8, I8, hw8, q8⟩ => ?_
      refine thnF (pt.run _ s8 σ8 H8 _ I8 q8) fun b s9 ⟨H9, I9, q9⟩ => ?_
      have fin : ∀ {s' : Shared} {H' : Hp}, L2.Inv (blkH X p s3 H3 scope ce fp) ([] ++ pinsAt fp s7.heap) σ8 H' s' → Nx H' → ∃ m, m < k ∧ ∃ i H', L2.Inv (blkH X p s3 H3 scope ce fp) [] (wipe σ (own.map (·.2))) H' s' ∧ tn i s'.heap ∧ (∀ b ∈ fp, H' b = none) ∧ W i m H' := fun {s' H'} I' nx => by
        obtain ⟨m', hm, w'⟩ := hNx H' nx
        have pin' : ∀ b ∈ fp, ∀ o, s7.heap.get? b = some o → s'.heap.get? b = some o ∧ H' b = none := fun b hb o e => by
          have z := I'.pin (b, o) (List.mem_append_right _ (List.mem_append_right _ (mem_pinsAt hb e)))
          exact ⟨z.1, z.2.1⟩
        refine ⟨m', hm, i + 1, H', (I'.unpinned (pins := [])).weak (by rw [← hw8, wipe_length]) (fun j v e => ?_), T.keep _ _ _ st7 fun b hb o e => (pin' b hb o e).1, fun b hb => ?_, w'⟩
        · rw [← hw8] at e
          exact (wipe_some e).1
        · obtain ⟨o, e, _⟩ := T.obj _ _ st7 b hb
          exact (pin' b hb o e).2
      cases b with
      | false =>
        simp only [Bool.false_eq_true, if_false] at q9 ⊢
        exact fin I9 q9
      | true =>
        simp only [if_true] at q9 ⊢
        refine thnF (pe.run _ s9 σ8 H9 _ I9 q9) fun z s10 ⟨yv, H10, I10, r10, acc, hD10, hz10, nx⟩ => ?_
        exact app_ok (X := blkH X p s3 H3 scope ce fp) I10 hD10 hz10 r10 fun s11 I11 => fin I11 nx
  exact codeAny_compStart_list loop (T.self X.A 0 _ _ _ st4 loop)
end
end TL
/-! T15d: what an except suite asks of its exception -/
namespace TL
open PySem PySem.Spec L2 PyProof.Rows L2H
set_option autoImplicit false
/-- isinstance(e, c), e an exception that the context keeps -/
theorem call_isP {X : Cx} {a D : Addr} {oe : Obj} (C : ExcC X.K D) (hp : (a, oe) ∈ X.pn) (hz : Zc (.ref D) none oe) (hf : ∃ vs, oe.data = .fields vs) : CallR X (.builtin "isinstance") (rIsE X.K D a) := by
  intro pins s σ H xs us Q I r h
  obtain ⟨c, cv, b, rfl, hcv, e, q⟩ := h
  cases r with
  | cons r1 r2 =>
    cases r2 with
    | cons r3 r4 =>
      cases r4
      cases r1
      obtain rfl := hcv _ r3
      have hg := (I.pin (a, oe) (List.mem_append_left _ hp)).1
      obtain ⟨vs, hv⟩ := hf
      have J : PySem.W.InstAt s.heap a oe D none := by
        obtain ⟨o1, o2, o3, o4⟩ := oe
        obtain ⟨g1, g2⟩ := hz
        dsimp only at g1 g2 hv
        subst g1 g2 hv
        exact ⟨hg, rfl, rfl, trivial⟩
      exact PySem.W.kia_one (PySem.W.handS_kitx_exc C.hg C.hk C.hs C.hd C.ha C.hn C.ht C.hm) I.kIn J e (fun z => nomatch z) fun tk => ⟨.bl b, H, I.kept (t' := tk) fun _ _ z => z, rfl, q⟩
/-- a class that is asked for: its name, and whether the exception is one -/
structure AskC (X : Cx) (D : Addr) (x : Str) (b : Bool) : Prop where
  gl : Gl X x
  nd : (x == ("__debug__" : Str)) = false
  ex : (∃ C : Addr, X.mg x = some (.ref C) ∧ PySem.W.kitOne X.K (.ref D) (.ref C) = some b) ∨ ∃ T : String, x ≠ "__name__" ∧ X.mg x = none ∧ bootBuiltins x = some (.type T) ∧ PySem.W.kitOne X.K (.ref D) (.type T) = some b
/-- the exception that a context keeps -/
structure Kept (X : Cx) (a : Addr) (oe : Obj) (D : Addr) : Prop where
  pn : (a, oe) ∈ X.pn
  hot : Hot1 X.A (a, oe)
  z : Zc (.ref D) none oe
  f : ∃ vs, oe.data = .fields vs
  ec : ExcC X.K D
  isi : Gl X "isinstance"
  isn : X.mg "isinstance" = none
/-- isinstance(e, x) -/
def isX (e x : Str) : Expr → Bool
  | .Call (.Name f _) [.Name y _, .Name z _] [] _ => decide (f = ("isinstance" : Str)) && decide (y = e) && decide (z = x)
  | _ => false
theorem pe_is {X : Cx} {a D : Addr} {oe : Obj} {e x : Str} {b : Bool} {i : Nat} {l : Expr} (k : Kept X a oe D) (h : isX e x l = true) (hi : X.N[i]? = some e) (hv : Vis X.env.scope e) (h1 : (e == ("__debug__" : Str)) = false) (h2 : (e == ("__classdict__" : Str)) = false) (hx : AskC X D x b) :
    PE X l (fun σ H Q => σ[i]? = some (some (.ref a)) ∧ Q (.bl b) H) ∧ ∃ f as p, l = .Call f as [] p := by
  unfold isX at h
  split at h
  · simp only [Bool.and_eq_true, decide_eq_true_eq] at h
    obtain ⟨⟨rfl, rfl⟩, rfl⟩ := h
    refine ⟨?_, _, _, _, rfl⟩
    rcases hx.ex with ⟨C, m1, m2⟩ | ⟨T, n1, m1, m2, m3⟩
    · refine (pe_callB (call_isP k.ec k.pn k.z k.f) k.isi k.isn (show bootBuiltins "isinstance" = some (.builtin "isinstance") by decide +kernel) (pa_cons (pe_var hi hv h1 h2) (pa_cons (pe_glob (v := .ref C) hx.gl m1 rfl hx.nd) pa_nil))).imp fun σ H Q ⟨q1, q2⟩ => ?_
      exact ⟨_, q1, .ref C, .ref C, b, rfl, fun u r => by cases r; rfl, m2, q2⟩
    · refine (pe_callB (call_isP k.ec k.pn k.z k.f) k.isi k.isn (show bootBuiltins "isinstance" = some (.builtin "isinstance") by decide +kernel) (pa_cons (pe_var hi hv h1 h2) (pa_cons (pe_bltn (v := .ty T) hx.gl m1 m2 rfl n1 hx.nd) pa_nil))).imp fun σ H Q ⟨q1, q2⟩ => ?_
      exact ⟨_, q1, .ty T, .type T, b, rfl, fun u r => by cases r; rfl, m3, q2⟩
  · cases h
/-- several asked, one by one -/
def isXs (e : Str) : List Str → List Expr → Bool
  | [], [] => true
  | x :: xs, l :: ls => isX e x l && isXs e xs ls
  | _, _ => false
theorem pa_is {X : Cx} {a D : Addr} {oe : Obj} {e : Str} {i : Nat} (k : Kept X a oe D) (hi : X.N[i]? = some e) (hv : Vis X.env.scope e) (h1 : (e == ("__debug__" : Str)) = false) (h2 : (e == ("__classdict__" : Str)) = false) (g : Str → Bool) :
    ∀ {xs : List Str} {ls : List Expr}, isXs e xs ls = true → (∀ x ∈ xs, AskC X D x (g x)) → PA X ls (fun σ H Q => σ[i]? = some (some (.ref a)) ∧ Q (xs.map fun x => .bl (g x)) H)
  | [], [], _, _ => pa_nil.imp fun σ H Q q => q.2
  | x :: xs, l :: ls, h, hx => by
    unfold isXs at h
    rw [Bool.and_eq_true] at h
    obtain ⟨p, f, as, q, rfl⟩ := pe_is k h.1 hi hv h1 h2 (hx x (List.mem_cons_self ..))
    refine (pa_cons p (pa_is k hi hv h1 h2 g h.2 fun y hy => hx y (List.mem_cons_of_mem _ hy))).imp fun σ H Q q => ?_
    exact ⟨q.1, q.1, q.2⟩
  | [], _ :: _, h, _ => by cases h
  | _ :: _, [], h, _ => by cases h
end TL
/-! T15e: the classes of an exception, and which one it is -/
namespace TL
open PySem PySem.Spec L2 PyProof.Rows L2H
set_option autoImplicit false
abbrev P0 : Addr → Prop := fun _ => False
theorem wd0 (H : Hp) : Wd P0 H [] [] where
  len := rfl
  obj := fun n e h => by simp at h
  pt := fun a h => h.elim
  inj := fun n m p e f h => by simp at h
theorem mf0 {a : Addr} (h : Mf P0 [] [] a) : False := by
  rcases h with h | ⟨n, e, h, _⟩
  · exact h
  · simp at h
theorem dm_bls {M : Addr → Prop} {H : Hp} : ∀ bs : List Bool, DmAll M H (bs.map V.bl) (bs.map PyData.bool)
  | [] => .nil
  | b :: bs => .cons (.bl b) (dm_bls bs)
/-- what was told is so later, too (tables aside) -/
structure Kp (H H' : Hp) : Prop where
  keep : ∀ b o, H b = some o → o.nt → H' b = some o
  tab : ∀ a, LamX.TabS H a lamQ → LamX.TabS H' a lamQ
  dom : ∀ b, H b ≠ none → H' b ≠ none
theorem Kp.refl (H : Hp) : Kp H H := ⟨fun _ _ h _ => h, fun _ h => h, fun _ h => h⟩
theorem Kp.trans {H H1 H2 : Hp} (a : Kp H H1) (b : Kp H1 H2) : Kp H H2 := ⟨fun c o h nt => b.keep c o (a.keep c o h nt) nt, fun c h => b.tab c (a.tab c h), fun c h => b.dom c (a.dom c h)⟩
theorem Kp.of {H H' : Hp} (h : ∀ b o, H b = some o → H' b = some o) : Kp H H' := ⟨fun b o e _ => h b o e, fun _ t => t.ext h, fun b e => by
  cases q : H b with
  | none => exact absurd q e
  | some o => rw [h b o q]; simp⟩
theorem ex0_keep {H H' : Hp} (x : Ex P0 H [] [] H' [] []) : Kp H H' := ⟨fun a o e nt => x.kp a o e nt fun z => mf0 z, x.tab, x.dom⟩
/-- found = [..], found = found + [..], return found -/
def clsB (e f : Str) (xs ys : List Str) : List Stmt → Bool
  | [.Assign [.Name f1 _] (.List ls _) _, .Assign [.Name f2 _] (.BinOp (.Name f3 _) .Add (.List ms _) _) _, .Return (some (.Name f4 _)) _] => decide (f1 = f) && decide (f2 = f) && decide (f3 = f) && decide (f4 = f) && isXs e xs ls && isXs e ys ms
  | _ => false
/-- the reading of _law_classes -/
def spCls (a : Addr) (bs : List Bool) : Sp := fun vs H Q _ => vs = [.ref a] ∧ ∀ H' L, Kp H H' → H' L = some (.lst (bs.map V.bl)) → Q (.ref L) H'
theorem cls_body {Z : Cx} {a D : Addr} {oe : Obj} {e f : Str} {xs ys : List Str} {body : List Stmt} {g : Str → Bool} (k : Kept Z a oe D) (nd : Z.N.Nodup) (eN : Z.N = [e, f]) (hv : Vis Z.env.scope e) (hl : Loc Z.env.scope f) (hfn : Z.fn f = true ∨ Z.env.scope.names.lookup f = some .local)
    (h1 : (e == ("__debug__" : Str)) = false) (h2 : (e == ("__classdict__" : Str)) = false) (h3 : (f == ("__debug__" : Str)) = false) (h4 : (f == ("__classdict__" : Str)) = false) (hb : clsB e f xs ys body = true) (hx : ∀ x ∈ xs ++ ys, AskC Z D x (g x)) (hlen : (xs ++ ys).length ≤ 100) {H : Hp} {Q : VK} {E : XK} {vs : List V} {Dn : L2.St → Hp → Prop} (q : spCls a ((xs ++ ys).map g) vs H Q E) :
    ∃ t, PSs Z body t ∧ t { nx := Dn, rt := Q } (L2.start Z.N vs) H := by
  unfold clsB at hb
  split at hb
  · simp only [Bool.and_eq_true, decide_eq_true_eq] at hb
    obtain ⟨⟨⟨⟨⟨g1, g2⟩, g3⟩, g4⟩, hb1⟩, hb2⟩ := hb
    have g1 := g1.symm
    have g2 := g2.symm
    have g3 := g3.symm
    have g4 := g4.symm
    subst g1
    subst g2
    subst g3
    subst g4
    have i0 : Z.N[0]? = some e := by rw [eN]; rfl
    have i1 : Z.N[1]? = some f := by rw [eN]; rfl
    have hvf : Vis Z.env.scope f := by
      rcases hl with z | z
      · exact .inl z
      · exact .inr (.inl z)
    have A1 := pa_is k i0 hv h1 h2 g hb1 fun x hx' => hx x (List.mem_append_left _ hx')
    have A2 := pa_is k i0 hv h1 h2 g hb2 fun x hx' => hx x (List.mem_append_right _ hx')
    refine ⟨_, pss_cons (ps_set nd i1 hl (pe_lst A1) rfl hfn) (pss_cons (ps_set nd i1 hl (pe_op (bin_ok .Add) (pe_var i1 hvf h3 h4) (pe_lst A2)) rfl hfn) (pss_cons (ps_ret (pe_var i1 hvf h3 h4)) pss_nil)), ?_⟩
    obtain ⟨rfl, q⟩ := q
    have l1 : xs.length ≤ 100 := by simp at hlen; omega
    have l2 : ys.length ≤ 100 := by simp at hlen; omega
    have st : L2.start Z.N [.ref a] = [some (.ref a), none] := by rw [eN]; rfl
    rw [st]
    refine ⟨rfl, (by rw [sizeLine_eq]; simp; omega), fun p1 n1 => ?_⟩
    refine ⟨.ref p1, rfl, rfl, (by rw [sizeLine_eq]; simp; omega), fun p2 n2 => ?_⟩
    have hp1 : (upd (upd H p1 (.lst (xs.map fun x => V.bl (g x)))) p2 (.lst (ys.map fun x => V.bl (g x)))) p1 = some (.lst (xs.map fun x => V.bl (g x))) := by
      rw [upd_ne (fun z => by rw [← z, upd_same] at n2; cases n2), upd_same]
    have hp2 : (upd (upd H p1 (.lst (xs.map fun x => V.bl (g x)))) p2 (.lst (ys.map fun x => V.bl (g x)))) p2 = some (.lst (ys.map fun x => V.bl (g x))) := upd_same
    have keep : ∀ b o, H b = some o → (upd (upd H p1 (.lst (xs.map fun x => V.bl (g x)))) p2 (.lst (ys.map fun x => V.bl (g x)))) b = some o := fun b o hbo => by
      have e1 : b ≠ p1 := fun z => by rw [z, n1] at hbo; cases hbo
      have e2 : (upd H p1 (.lst (xs.map fun x => V.bl (g x)))) b = some o := by rw [upd_ne e1]; exact hbo
      rw [upd_ne (fun z => by rw [z, n2] at e2; cases e2)]
      exact e2
    generalize upd (upd H p1 (.lst (xs.map fun x => V.bl (g x)))) p2 (.lst (ys.map fun x => V.bl (g x))) = H2 at *
    have m1 := dm_bls (M := Mf P0 [] []) (H := H2) (xs.map g)
    have m2 := dm_bls (M := Mf P0 [] []) (H := H2) (ys.map g)
    rw [List.map_map] at m1 m2
    have ad : binF .Add (.list ((xs.map g).map PyData.bool)) (.list ((ys.map g).map PyData.bool)) = some (.fr ((xs.map g).map PyData.bool ++ (ys.map g).map PyData.bool)) := by
      have e0 : binF .Add (.list ((xs.map g).map PyData.bool)) (.list ((ys.map g).map PyData.bool)) = if ((xs.map g).map PyData.bool).length + ((ys.map g).map PyData.bool).length ≤ sizeLine then some (.fr ((xs.map g).map PyData.bool ++ (ys.map g).map PyData.bool)) else none := rfl
      rw [e0, if_pos (by rw [sizeLine_eq]; simp; omega)]
    refine ⟨P0, [], [], .list ((xs.map g).map .bool), .list ((ys.map g).map .bool), .fr ((xs.map g).map .bool ++ (ys.map g).map .bool), wd0 H2, .inl (.lst hp1 (fun z => mf0 z) m1), .inl (.lst hp2 (fun z => mf0 z) m2), ad, fun v H' x w vo => ?_⟩
    obtain ⟨p, us, rfl, _, _, hp, _, t, _⟩ := vo
    refine ⟨.ref p, rfl, q H' p (Kp.trans (Kp.of keep) (ex0_keep x)) ?_⟩
    rw [← List.map_append] at t
    have := DmAll.bls t
    rw [hp, this, List.map_append]
    simp
  · cases hb
end TL
/-! T15f: a comprehension over a range that changes nothing; which class an exception is of -/
namespace TL
open PySem PySem.Spec L2 PyProof.Rows L2H
set_option autoImplicit false
/-- all that was there is there -/
theorem Kp.upd {H : Hp} {p : Addr} {o : HO} (h : H p = none) : Kp H (upd H p o) := Kp.of fun b u e => by
  rw [upd_ne (fun z => by rw [z, h] at e; cases e)]
  exact e
/-- an item is put behind a new list -/
theorem Kp.put {H H' : Hp} {p : Addr} {vs ws : List V} (k : Kp H H') (n : H p = none) (h : H' p = some (.lst vs)) : Kp H (L2.upd H' p (.lst ws)) where
  keep := fun b o e nt => by
    rw [upd_ne (fun z => by rw [z, n] at e; cases e)]
    exact k.keep b o e nt
  tab := fun a t => tab_put (fun u hu => by rw [h] at hu; exact ⟨vs, (Option.some.inj hu).symm⟩) (k.tab a t)
  dom := fun b e => by
    by_cases z : b = p
    · rw [z, upd_same]; simp
    · rw [upd_ne z]; exact k.dom b e
theorem lc_rng {tt : TT} {te : TE} {ta : TA} {σ : L2.St} {H : Hp} {Q : VK} {n j : Nat} (cf : Nat → Bool) (yf : Nat → V) (hn : n ≤ 100)
    (ha : ∀ Q' : List V → Hp → Prop, Q' [.int (n : Int)] H → ta σ H Q')
    (ht : ∀ i, i < n → ∀ (H' : Hp) (Q' : Bool → Hp → Prop), Kp H H' → (∀ H3, Kp H' H3 → Q' (cf i) H3) → tt ((wipe σ [j]).set j (some (.int (i : Int)))) H' Q')
    (he : ∀ i, i < n → cf i = true → ∀ (H' : Hp) (Q' : VK), Kp H H' → (∀ H3, Kp H' H3 → Q' (yf i) H3) → te ((wipe σ [j]).set j (some (.int (i : Int)))) H' Q')
    (hQ : ∀ D H', H D = none → Kp H H' → H' D = some (.lst (((List.range n).filter cf).map yf)) → Q (.ref D) H') : tLc (iRng1 ta) (gName j) tt te [j] σ H Q := by
  refine ha _ ⟨(n : Int), rfl, by omega, by omega, fun D nD => ?_⟩
  rw [Int.toNat_natCast]
  refine ⟨fun i m H' => i + m = n ∧ Kp H H' ∧ H' D = some (.lst (((List.range i).filter cf).map yf)), ⟨n, by omega, Kp.upd nD, upd_same⟩, fun i m H' ⟨h1, h2, h3⟩ => ?_⟩
  by_cases hi : i < n
  · refine .inr ⟨hi, fun H'' => i + 1 + (m - 1) = n ∧ Kp H H'' ∧ H'' D = some (.lst (((List.range (i + 1)).filter cf).map yf)), fun H'' q => ⟨m - 1, by omega, q⟩, ?_⟩
    rintro x H1 ⟨rfl, rfl⟩
    show wipe (((wipe σ [j]).set j (some (.int (0 + (i : Int)))))) [j] = wipe σ [j] ∧ _
    rw [Int.zero_add]
    refine ⟨by simp [wipe], ht i hi H1 _ h2 fun H3 k3 => ?_⟩
    cases hc : cf i with
    | false =>
      rw [if_neg Bool.false_ne_true]
      refine ⟨by omega, h2.trans k3, ?_⟩
      rw [List.range_succ, List.filter_append]
      simp only [List.filter_cons, hc, List.filter_nil, Bool.false_eq_true, if_false, List.append_nil]
      exact k3.keep _ _ h3 (nt_lst _)
    | true =>
      rw [if_pos rfl]
      refine he i hi hc H3 _ (h2.trans k3) fun H4 k4 => ?_
      have hD := k4.keep _ _ (k3.keep _ _ h3 (nt_lst _)) (nt_lst _)
      refine ⟨_, hD, ?_, by omega, ?_, ?_⟩
      · have l1 := List.length_filter_le cf (List.range i)
        rw [List.length_map, sizeLine_eq]
        simp at l1
        omega
      · exact ((h2.trans k3).trans k4).put nD hD
      · rw [upd_same, List.range_succ, List.filter_append]
        simp [List.filter_cons, hc]
  · have : i = n := by omega
    subst this
    exact .inl ⟨by show i ≤ i; omega, hQ D H' nD h2 h3⟩
end TL
/-! T15g: defs called where a given exception is handled -/
namespace TL
open PySem PySem.Spec L2 PyProof.Rows L2H
set_option autoImplicit false
/-- what a def promises where p is handled -/
structure FnP (P : Program) (w : World) (K : PySem.W.Frag) (mg : Str → Option Value) (base : Heap) (k : Nat) (f : Addr) (fd : FuncData) (ps : List Str) (sp : Sp) (p : Addr × Obj) : Prop where
  len : ∀ vs H Q E, sp vs H Q E → vs.length = ps.length
  go : ∀ (A : Around) (outer : List Env) (s : Shared) (H : Hp) (args : Args) (us : List Value) (vs : List V) (Q : VK) (E : XK), RoomH k A → Hot1 A p → PinOk outer H s p → Env0 P w K mg base A outer s H → BindsTo s fd args (ps.zip us) → Vals vs us → sp vs H Q E →
    codeAny (model P w) A (.call (.ref f) args) (CR (L2N.CX P w) outer P w H s Q E) s
theorem fnP_of {P : Program} {w : World} {K : PySem.W.Frag} {mg : Str → Option Value} {base : Heap} {k : Nat} {f : Addr} {name qual : Str} {params : Arguments} {body : List Stmt} {scope : Scope} {dV kV doc pm cdv ct oc : Value} {an od : Option Addr} {osl : Array (Option Value)} {N ps : List Str} {sp : Sp} {p : Addr × Obj}
    (lk : K.lookup f = some ⟨oc, od, .func (PySem.W.fnOf name qual params body scope dV kV doc pm an cdv ct), osl⟩) (hcd : PySem.W.codeIn K cdv qual = true) (sc : FnScope N ps scope) (len : ∀ vs H Q E, sp vs H Q E → vs.length = ps.length)
    (hb : ∀ (A : Around) (outer : List Env) (s : Shared) (H : Hp) (vs : List V) (Q : VK) (E : XK), Hot1 A p → RoomH k (A.deeper (envOfC qual scope s.heap.objs.size f cdv)) → sp vs H Q E →
      ∃ t, PSs (cxH (L2N.CX P w) P w K mg base N qual scope f cdv A outer s H E p) body t ∧ t { nx := fun _ H' => Q .non H', rt := Q } (L2.start N vs) H) :
    FnP P w K mg base (k + 1) f (PySem.W.fnOf name qual params body scope dV kV doc pm an cdv ct) ps sp p := by
  refine ⟨len, fun A outer s H args us vs Q E room hot pin e0 bi r q => ?_⟩
  have kx : K.In s.heap := e0.mod.kin.keeps fun b o e => (e0.bs b o e).1
  have li : s.heap.NoLimit := e0.mod.nolimit.keeps fun b o e => (e0.bs b o e).1
  have kinds : ∀ y ∈ ps.zip us, scope.names.lookup y.1 = some .local ∨ (scope.names.lookup y.1 = some .cell ∧ ((cellsFrom (s.heap.objs.size + 1) scope.names []).lookup y.1).isSome = true) := by
    rintro ⟨n, v⟩ hy
    rcases sc.par n (List.of_mem_zip hy).1 with z | z
    · exact .inl z
    · exact .inr ⟨z, PySem.W.cellsFrom_some _ _ _ (.inl z)⟩
  refine codeAny_call_function room.depth (kx _ _ lk) rfl sc.co sc.gen rfl (PySem.W.codeRec_of kx hcd) (bi _ _ _ _ ?_)
  refine wpAny_newFunctionEnv_cells sc.kind kinds fun env he s1 x => ?_
  subst he
  refine ⟨li.keeps x.toInCall.keep, codeAny_func ?_⟩
  obtain ⟨t, ht, hq⟩ := hb A outer s H vs Q E hot (room.deeper _) q
  have I := inv_startH (CX := L2N.CX P w) (E := E) sc pin e0 (len _ _ _ _ q) r x
  refine wpAny_mono (ht.run [] s1 (L2.start N vs) H _ I hq) (fun fl s' hs => ?_) fun e s' hs => hs
  cases fl with
  | ret u =>
    obtain ⟨v, σ', H', J, rv, q⟩ := hs
    exact ⟨v, H', J.os, J.bare, J.base, J.hok, rv, q⟩
  | next =>
    obtain ⟨σ', H', J, q⟩ := hs
    exact ⟨V.non, H', J.os, J.bare, J.base, J.hok, rfl, q⟩
  | brk =>
    obtain ⟨_, _, _, q⟩ := hs
    exact q.elim
  | cont =>
    obtain ⟨_, _, _, q⟩ := hs
    exact q.elim
/-- a call that lets no exception out -/
def tC0 (sp : Sp) (t : TA) : TE := fun σ H Q => t σ H fun vs H1 => sp vs H1 Q fun _ _ _ => False
theorem pe_callP {X : Cx} {p : Addr × Obj} {k : Nat} {f : Addr} {fd : FuncData} {ps : List Str} {sp : Sp} {x : Str} {q pos : Pos} {e : Expr} {es : List Expr} {t : TA} (F : FnP X.prog X.w X.K X.mg X.base k f fd ps sp p) (room : RoomH k X.A) (hot : Hot1 X.A p) (hp : p ∈ X.pn) (hg : Gl X x) (hm : X.mg x = some (.ref f)) (hk : PySem.W.keepIn X.K (.ref f) = true) (hb : Binds X.K fd ps [])
    (ha : PA X (e :: es) t) (hdb : (x == ("__debug__" : Str)) = false) (he : starEach (e :: es) X.env = (false, eval e X.env) :: starEach es X.env) (hpl : (backTo pos (starEach es X.env)).any (·.1) = false) :
    PE X (.Call (.Name x q) (e :: es) [] pos) (tC0 sp t) := by
  refine ⟨fun pins s σ H Q I h => ?_⟩
  refine PySem.wpAny_Call_Name_kw (ld_glob I hg hm ?_ hdb)
  refine PySem.W.callWith_K (h₀ := X.base) I.ok.mod.kin hk (thn (ha.run pos pins s σ H _ I h) fun us s1 ⟨vs, H1, I1, r, q1⟩ => ⟨I1.kIn, ?_⟩) he hpl
  have ln : us.length = ps.length := by rw [← r.length]; exact F.len _ _ _ _ q1
  have b := hb s1 us I1.kIn (by rw [List.append_nil]; exact ln)
  rw [List.append_nil] at b
  obtain ⟨z1, z2, z3, z4, z5⟩ := I1.pin p (List.mem_append_left _ hp)
  have pk : PinOk X.stack H1 s1 p := ⟨z1, z2, fun hm => (List.mem_cons.mp (I1.stkSub p.1 hm)).elim z3 z4, z5⟩
  refine wpAny_call (codeAny_mono (F.go X.A X.stack s1 H1 ⟨us, []⟩ us vs Q (fun _ _ _ => False) room hot pk I1.env0 b r q1) fun r s' hq => ?_)
  cases r with
  | error e =>
    obtain ⟨_, _, _, _, _, _, _, _, _, _, _, _, z⟩ := hq
    exact z.elim
  | ok fl =>
    cases fl with
    | ret u => exact I1.after hq
    | next => exact False.elim hq
    | brk => exact False.elim hq
    | cont => exact False.elim hq
/-- the names of a context -/
structure Mx (X : Cx) (c : MC) : Prop where
  N : c.N = X.N
  sc : c.sc = X.env.scope
  fn : c.fn = X.fn
section
variable {X : Cx} {c : MC}
theorem Mx.gl (m : Mx X c) {x : Str} (h : glB c x = true) : Gl X x ∧ (x == ("__debug__" : Str)) = false := by
  unfold glB at h
  rw [Bool.and_eq_true] at h
  refine ⟨?_, by simpa using h.2⟩
  have e : c.sc.names.lookup x = some .globalImplicit := by simpa [MC.look] using h.1
  rw [m.sc] at e
  exact e
theorem Mx.vis (m : Mx X c) {i : Nat} {x : Str} (h : visB c i x = true) : X.N[i]? = some x ∧ Vis X.env.scope x ∧ (x == ("__debug__" : Str)) = false ∧ (x == ("__classdict__" : Str)) = false := by
  unfold visB at h
  simp only [Bool.and_eq_true, decide_eq_true_eq, Bool.or_eq_true, beq_iff_eq, Bool.not_eq_true'] at h
  obtain ⟨⟨⟨h1, h2⟩, h3⟩, h4⟩ := h
  refine ⟨by rw [← m.N]; exact h1, ?_, by simpa using h3, by simpa using h4⟩
  unfold MC.look at h2
  rw [m.sc] at h2
  rcases h2 with (h2 | h2) | h2
  · exact .inl h2
  · exact .inr (.inl h2)
  · exact .inr (.inr h2)
theorem Mx.loc (m : Mx X c) {i : Nat} {x : Str} (h : locB c i x = true) : X.N[i]? = some x ∧ Loc X.env.scope x ∧ (X.fn x = true ∨ X.env.scope.names.lookup x = some .local) := by
  unfold locB at h
  simp only [Bool.and_eq_true, decide_eq_true_eq, Bool.or_eq_true, beq_iff_eq] at h
  obtain ⟨h1, h2⟩ := h
  unfold MC.look at h2
  rw [m.sc, m.fn] at h2
  refine ⟨by rw [← m.N]; exact h1, ?_, ?_⟩
  · rcases h2 with h2 | h2
    · exact .inl h2
    · exact .inr h2.1
  · rcases h2 with h2 | h2
    · exact .inr h2
    · exact .inl h2.2
theorem Mx.blkH (m : Mx X c) (p : Addr × Obj) (s : Shared) (H : Hp) (C : Addr) (cl : List (Str × Addr)) (fp : List Addr) (scope : Scope) : Mx (TL.blkH X p s H scope (compEnvC scope cl C X.env) fp) (c.blk scope) where
  N := m.N
  sc := by
    show relS scope c.sc = _
    rw [m.sc]
    rfl
  fn := rfl
end
/-- a comprehension over range(n) where p is handled -/
theorem pe_lcH {X : Cx} {p : Addr × Obj} {elt tg iter : Expr} {ifs : List Expr} {scope : Scope} {own : List (Str × Nat)} {pos : Pos} {wi : TI} {g : TG} {tt : TT} {te : TE} (hot : Hot1 X.A p) (hpn : p ∈ X.pn) (nd : X.N.Nodup) (hi : PIH X tg iter wi) (ok : BlkOk X.N X.env.scope scope own)
    (hg : ∀ (s : Shared) (H : Hp) (C : Addr) (cl : List (Str × Addr)) (fp : List Addr), PG (blkH X p s H scope (compEnvC scope cl C X.env) fp) tg g) (ht : ∀ (s : Shared) (H : Hp) (C : Addr) (cl : List (Str × Addr)) (fp : List Addr), PTs (blkH X p s H scope (compEnvC scope cl C X.env) fp) ifs tt)
    (he : ∀ (s : Shared) (H : Hp) (C : Addr) (cl : List (Str × Addr)) (fp : List Addr), PE (blkH X p s H scope (compEnvC scope cl C X.env) fp) elt te) (hs : ∀ x, foldedSetIterable iter X.env x = pure x) : PE X (.ListComp elt [⟨tg, iter, ifs, 0⟩] scope pos) (tLc wi g tt te (own.map (·.2))) :=
  ⟨fun pins s σ H Q I h => lc_hot (pos' := pos) hot hpn nd I hi ok hg ht he hs h⟩
/-- the list that tells the m-th of eight -/
def hot8 (m : Nat) : List Bool := (List.range 8).map fun k => decide (k = m)
theorem hot8_eq : ∀ m, m < 8 → ∀ j, j < 8 → cmpF .Eq (.list ((hot8 m).map .bool)) (.list ((hot8 j).map .bool)) = some (decide (j = m)) := by decide +kernel
/-- the body of _law_only -/
def onlB (c : MC) (e pl kk cls : Str) : List Stmt → Bool
  | [.If (.BoolOp .Or [.UnaryOp .Not i1 _, .UnaryOp .Not i2 _] _) [.Return (some (.Constant (.bool false) _ _)) _] [] _,
     .Return (some (.Compare (.Call (.Name c1 _) [.Name e1 _] [] _) [.Eq] [.ListComp (.Compare (.Name k1 _) [.Eq] [.Name p1 _] _) [⟨.Name k2 _, .Call (.Name r _) [.Constant (.int 8) _ _] [] _, [], 0⟩] scope _] _)) _] =>
    isX e "TurnError" i1 && isX e "ValueError" i2 && decide (c1 = cls) && decide (e1 = e) && decide (k1 = kk) && decide (k2 = kk) && decide (p1 = pl) && decide (r = "range") && blkC c.N c.sc scope [(kk, 2)] &&
      visB c 0 e && glB c cls && glB c "range" && glB c "isinstance" && glB c "TurnError" && glB c "ValueError" && locB (c.blk scope) 2 kk && visB (c.blk scope) 2 kk && visB (c.blk scope) 1 pl
  | _ => false
def spOnl (a : Addr) (m : Nat) : Sp := fun vs H Q _ => ∃ j : Nat, j < 8 ∧ vs = [.ref a, .int (j : Int)] ∧ ∀ H', Kp H H' → Q (.bl (decide (j = m))) H'
theorem eq_ints {X : Cx} {i j : Int} {H : Hp} {Q : VK} (q : ∀ H', Kp H H' → Q (.bl (decide (i = j))) H') : rD2 X.K (cmpV .Eq) (.int i) (.int j) H Q := by
  have e : cmpF .Eq (.int i) (.int j) = some (decide (i = j)) := by
    have e0 : cmpF .Eq (.int i) (.int j) = some (PyData.eqv (.int i) (.int j)) := rfl
    rw [e0]
    simp only [PyData.eqv]
    congr 1
  refine ⟨P0, [], [], .int i, .int j, .dt (.bool (decide (i = j))), wd0 H, .inl (.int i), .inl (.int j), by unfold cmpV; rw [e]; rfl, fun v H' x w vo => ?_⟩
  have vo : Dm _ _ _ _ := vo
  cases vo
  exact q H' (ex0_keep x)
theorem eq_hot {X : Cx} {m j : Nat} {H : Hp} {Q : VK} {p p2 : Addr} (hm : m < 8) (hj : j < 8) (h1 : H p = some (.lst ((hot8 m).map V.bl))) (h2 : H p2 = some (.lst ((hot8 j).map V.bl))) (q : ∀ H', Kp H H' → Q (.bl (decide (j = m))) H') : rD2 X.K (cmpV .Eq) (.ref p) (.ref p2) H Q := by
  refine ⟨P0, [], [], .list ((hot8 m).map .bool), .list ((hot8 j).map .bool), .dt (.bool (decide (j = m))), wd0 H, .inl (.lst h1 (fun z => mf0 z) (dm_bls _)), .inl (.lst h2 (fun z => mf0 z) (dm_bls _)), by unfold cmpV; rw [hot8_eq m hm j hj]; rfl, fun v H' x w vo => ?_⟩
  have vo : Dm _ _ _ _ := vo
  cases vo
  exact q H' (ex0_keep x)
theorem AskC.mk' {X : Cx} {c : MC} {D : Addr} {x : Str} {b : Bool} (mx : Mx X c) (h : glB c x = true) (ex : (∃ C : Addr, X.mg x = some (.ref C) ∧ PySem.W.kitOne X.K (.ref D) (.ref C) = some b) ∨ ∃ T : String, x ≠ "__name__" ∧ X.mg x = none ∧ bootBuiltins x = some (.type T) ∧ PySem.W.kitOne X.K (.ref D) (.type T) = some b) : AskC X D x b := ⟨(mx.gl h).1, (mx.gl h).2, ex⟩
theorem onl_body {Z : Cx} {c : MC} {a D : Addr} {oe : Obj} {e pl kk cls e' : Str} {body : List Stmt} {m k : Nat} {fc : Addr} {fdc : FuncData} (kp : Kept Z a oe D) (mx : Mx Z c) (nd : Z.N.Nodup) (eN : Z.N = [e, pl, kk]) (room : RoomH k Z.A)
    (F : FnP Z.prog Z.w Z.K Z.mg Z.base k fc fdc [e'] (spCls a (hot8 m)) (a, oe)) (hmc : Z.mg cls = some (.ref fc)) (hkc : PySem.W.keepIn Z.K (.ref fc) = true) (hbc : Binds Z.K fdc [e'] []) (rng : Z.mg "range" = none)
    (t1 : ∃ T : Addr, Z.mg "TurnError" = some (.ref T) ∧ PySem.W.kitOne Z.K (.ref D) (.ref T) = some true) (t2 : Z.mg "ValueError" = none ∧ PySem.W.kitOne Z.K (.ref D) (.type "ValueError") = some true) (hm : m < 8) (hb : onlB c e pl kk cls body = true) {H : Hp} {Q : VK} {E : XK} {vs : List V} {Dn : L2.St → Hp → Prop} (q : spOnl a m vs H Q E) :
    ∃ t, PSs Z body t ∧ t { nx := Dn, rt := Q } (L2.start Z.N vs) H := by
  unfold onlB at hb
  split at hb
  · rename_i i1 x1 i2 x2 x3 x4 x5 x6 x7 c1 x8 e1 x9 x10 k1 x11 p1 x12 x13 k2 x14 r x15 x16 x17 x18 scope x19 x20 x21
    simp only [Bool.and_eq_true, decide_eq_true_eq] at hb
    obtain ⟨⟨⟨⟨⟨⟨⟨⟨⟨⟨⟨⟨⟨⟨⟨⟨⟨b1, b2⟩, b3⟩, b4⟩, b5⟩, b6⟩, b7⟩, b8⟩, b9⟩, b10⟩, b11⟩, b12⟩, b13⟩, b14⟩, b15⟩, b16⟩, b17⟩, b18⟩ := hb
    subst b3 b4 b5 b6 b7 b8
    obtain ⟨v1, v2, v3, v4⟩ := mx.vis b10
    have A1 := AskC.mk' (D := D) (b := true) mx b14 (.inl t1)
    have A2 := AskC.mk' (D := D) (b := true) mx b15 (.inr ⟨"ValueError", by decide, t2.1, by decide +kernel, t2.2⟩)
    obtain ⟨E1, f1, as1, q1, rfl⟩ := pe_is kp b1 v1 v2 v3 v4 A1
    obtain ⟨E2, f2, as2, q2, rfl⟩ := pe_is kp b2 v1 v2 v3 v4 A2
    have C1 := pe_callP (pos := x10) (q := x8) F room kp.hot kp.pn (mx.gl b11).1 hmc hkc hbc (pa_cons (pe_var (pos := x9) v1 v2 v3 v4) pa_nil) (mx.gl b11).2 rfl rfl
    rw [mx.N, mx.sc] at b9
    have L1 := pe_lcH (X := Z) (p := (a, oe)) (pos := x19) (scope := scope) kp.hot kp.pn nd (pi_range1H (p := x15) (pos := x18) (tg := .Name k2 x14) (mx.gl b12).1 rng (pa_cons (pe_int (i := 8) (j := x16) (pos := x17)) pa_nil)) (blkOk_by b9)
      (fun s H C cl fp => pg_name nd (((mx.blkH (a, oe) s H C cl fp scope).loc b16).1) (((mx.blkH (a, oe) s H C cl fp scope).loc b16).2.1) (((mx.blkH (a, oe) s H C cl fp scope).loc b16).2.2)) (fun s H C cl fp => pts_nil)
      (fun s H C cl fp => by
        obtain ⟨w1, w2, w3, w4⟩ := (mx.blkH (a, oe) s H C cl fp scope).vis b17
        obtain ⟨u1, u2, u3, u4⟩ := (mx.blkH (a, oe) s H C cl fp scope).vis b18
        exact pe_cmpR (op := .Eq) (r := rD2 Z.K (cmpV .Eq)) (pos := x13) (cmp_ok (X := blkH Z (a, oe) s H scope (compEnvC scope cl C Z.env) fp) (by have := room.un; show Z.A.units + 65 < cLine; omega) .Eq) (pe_var (pos := x11) w1 w2 w3 w4) (pe_var (pos := x12) u1 u2 u3 u4) rfl) (fun x => rfl)
    refine ⟨_, pss_cons (ps_if (pw_or (pt_not (pt_truth E1 (fun _ => rfl))) (pw_or1 (pt_not (pt_truth E2 (fun _ => rfl))))).pt (pss_cons (ps_ret pe_bl) pss_nil) pss_nil) (pss_cons (ps_ret (pe_cmpR (cmp_ok (by have := room.un; omega) .Eq) C1 L1 rfl)) pss_nil), ?_⟩
    obtain ⟨j, hj, rfl, q⟩ := q
    have st : L2.start Z.N [.ref a, .int (j : Int)] = [some (.ref a), some (.int (j : Int)), none] := by rw [eN]; rfl
    rw [st]
    refine ⟨rfl, true, rfl, ?_⟩
    simp only [Bool.not_true, Bool.false_eq_true, if_false]
    refine ⟨rfl, true, rfl, ?_⟩
    simp only [Bool.not_true, Bool.false_eq_true, if_false]
    refine ⟨.ref a, rfl, rfl, fun H1 L1 k1 h1 => ?_⟩
    refine lc_rng (n := 8) (fun _ => true) (fun i => .bl (decide ((i : Int) = (j : Int)))) (by omega) (fun Q' q' => q') (fun i hi H' Q' _ q' => q' H' (Kp.refl _)) (fun i hi _ H' Q' k' q' => ?_) fun L2 H2 _ k2 h2 => ?_
    · refine ⟨.int (i : Int), rfl, .int (j : Int), rfl, eq_ints q'⟩
    · refine eq_hot (X := Z) hm hj (k2.keep _ _ h1 (nt_lst _)) (by rw [h2, List.filter_eq_self.mpr (fun _ _ => rfl)]; unfold hot8; rw [List.map_map]; congr 2; apply List.map_congr_left; intro i _; simp [Int.ofNat_inj]) fun H3 k3 => q H3 ((Kp.trans k1 k2).trans k3)
  · cases hb
end TL
/-! T15i: the def that tells an exception by a word -/
namespace TL
open PySem PySem.Spec PyProof.Rows L2 L2H
set_option autoImplicit false
/-! ### list.count of truths -/
theorem bl_gives (b : Bool) : ∀ {bs : List Bool} {us : List Value}, Vals (bs.map V.bl) us → (∀ y ∈ us, ∀ (A : Around) (s : Shared), SeqAt.EqAt A s y (.bool b) (isBoolOf b y)) ∧ us.countP (isBoolOf b) = bs.count b
  | [], _, .nil => ⟨(fun y hy => absurd hy (by simp)), rfl⟩
  | c :: bs, _, .cons r t => by
    cases r
    obtain ⟨h1, h2⟩ := bl_gives b t
    refine ⟨fun y hy A s => ?_, ?_⟩
    · rcases List.mem_cons.mp hy with rfl | hy
      · exact eqAt_V (y := .bl c) (x := .bl b) rfl rfl rfl rfl
      · exact h1 y hy A s
    · rw [List.countP_cons, List.count_cons, h2] <;> rfl
def rCntB (K : PySem.W.Frag) : V → List V → Hp → VK → Prop := fun x xs H Q => ∃ (p : Addr) (bs : List Bool) (b : Bool), x = .ref p ∧ xs = [.bl b] ∧ SqL K H p (bs.map V.bl) ∧ Q (.int (bs.count b : Nat)) H
theorem mt_bcount {X : Cx} : MtR X "list.count" (rCntB X.K) := by
  intro pins s σ H x xs v us Q I rx rxs h
  obtain ⟨p, bs, b, rfl, rfl, hs, q⟩ := h
  cases rx
  obtain ⟨u, rfl, ru⟩ := rxs.one
  cases ru
  obtain ⟨its, rv, ⟨⟨cls, dd, data, sl⟩, n, ho, hc, hdn, hd⟩, hlen⟩ := I.list hs
  simp only at hc hd
  subst hc hd
  obtain ⟨h1, h2⟩ := bl_gives b rv
  refine call_meets PySem.F.slot_list_count ⟨_, ho, rfl⟩ PySem.F.entry_list_count (PySem.F.args_list_count_2 _ _)
    (SeqAt.list_countAt p its.toArray n dd sl (.bool b) (isBoolOf b)) ⟨ho, fun y hy => h1 y (by simpa using hy) _ _, ?_⟩
  have ec : its.toArray.toList.countP (isBoolOf b) = bs.count b := h2
  refine ⟨.int (bs.count b : Nat), H, I.tok _, ⟨s.toks, ?_⟩, q⟩
  show Value.int ((its.toArray.toList.countP (isBoolOf b) : Nat) : Int) s.toks = Value.int ((bs.count b : Nat) : Int) s.toks
  rw [ec]
/-! ### the def -/
theorem hot8_cnt : ∀ m, m < 8 → (hot8 m).count true = 1 := by decide +kernel
theorem hot8_ix : ∀ m, m < 8 → (hot8 m)[m]? = some true ∧ ∀ i, i < m → (hot8 m)[i]? = some false := by decide +kernel
theorem hot8_flat : ∀ m, m < 8 → ((hot8 m).map V.bl).all flatV = true := by decide +kernel
theorem marks_ix : ∀ m, m < 8 → marks8[m]? = some (marks8.getD m "") := by decide +kernel
def isOther : List Stmt → Bool
  | [.Return (some (.Constant (.str _) _ _)) _] => true
  | _ => false
/-- the names' texts -/
def isMarks : List Expr → List Str → Bool
  | [], [] => true
  | .Constant (.str y) _ _ :: r, x :: xs => decide (y = x) && isMarks r xs
  | _, _ => false
def mrkB (e f : Str) (xs ys : List Str) : List Stmt → Bool
  | [.If (.BoolOp .Or [.UnaryOp .Not i1 _, .UnaryOp .Not i2 _] _) [.Return (some (.Constant (.str _) _ _)) _] [] _,
     .Assign [.Name f1 _] (.List ls _) _, .Assign [.Name f2 _] (.BinOp (.Name f3 _) .Add (.List ms _) _) _,
     .If (.Compare (.Call (.Attribute (.Name f4 _) "count" pa) [.Constant (.bool true) _ _] [] pb) [.NotEq] [.Constant (.int 1) _ _] _) [.Return (some (.Constant (.str _) _ _)) _] [] _,
     .Return (some (.Subscript (.List ws _) (.Call (.Attribute (.Name f5 _) "index" pc) [.Constant (.bool true) _ _] [] pd) _)) _] =>
    isX e "TurnError" i1 && isX e "ValueError" i2 && decide (f1 = f) && decide (f2 = f) && decide (f3 = f) && decide (f4 = f) && decide (f5 = f) && isXs e xs ls && isXs e ys ms && (pa.endLine == pb.line) && (pc.endLine == pd.line) && isMarks ws marks8
  | _ => false
def spMrk (a : Addr) (m : Nat) : Sp := fun vs H Q _ => vs = [.ref a] ∧ ∀ H', Kp H H' → Q (.str (marks8.getD m "")) H'
/-- a list of texts -/
def tStrs : List Str → TA
  | [] => tNil
  | x :: xs => tCons (tC (.str x)) (tStrs xs)
theorem pa_marks {X : Cx} : ∀ {ls : List Expr} {xs : List Str}, isMarks ls xs = true → PA X ls (tStrs xs)
  | [], [], _ => pa_nil
  | .Constant (.str y) j p :: r, x :: xs, h => by
    simp only [isMarks, Bool.and_eq_true, decide_eq_true_eq] at h
    obtain ⟨rfl, h⟩ := h
    exact pa_cons pe_str (pa_marks h)
theorem tStrs_ok {σ : L2.St} {H : Hp} : ∀ {xs : List Str} {Q : List V → Hp → Prop}, Q (xs.map V.str) H → tStrs xs σ H Q
  | [], Q, q => q
  | x :: xs, Q, q => by
    show tStrs xs σ H _
    exact tStrs_ok q
theorem ne_one {X : Cx} {H : Hp} {Q : VK} (q : ∀ H', Kp H H' → Q (.bl false) H') : rD2 X.K (cmpV .NotEq) (.int 1) (.int 1) H Q := by
  have e : cmpF .NotEq (.int 1) (.int 1) = some false := by decide +kernel
  refine ⟨P0, [], [], .int 1, .int 1, .dt (.bool false), wd0 H, .inl (.int 1), .inl (.int 1), by unfold cmpV; rw [e]; rfl, fun v H' x w vo => ?_⟩
  have vo : Dm _ _ _ _ := vo
  cases vo
  exact q H' (ex0_keep x)
theorem mrk_body {Z : Cx} {c : MC} {a D : Addr} {oe : Obj} {e f : Str} {body : List Stmt} {g : Str → Bool} {m : Nat} (k : Kept Z a oe D) (mx : Mx Z c) (nd : Z.N.Nodup) (eN : Z.N = [e, f]) (hu : Z.A.units + 65 < cLine) (b1 : visB c 0 e = true) (b2 : visB c 1 f = true) (b3 : locB c 1 f = true) (b4 : glB c "TurnError" = true) (b5 : glB c "ValueError" = true)
    (t1 : ∃ T : Addr, Z.mg "TurnError" = some (.ref T) ∧ PySem.W.kitOne Z.K (.ref D) (.ref T) = some true) (t2 : Z.mg "ValueError" = none ∧ PySem.W.kitOne Z.K (.ref D) (.type "ValueError") = some true) (hm : m < 8) (hg : (names8.take 4 ++ names8.drop 4).map g = hot8 m)
    (hx : ∀ x ∈ names8.take 4 ++ names8.drop 4, AskC Z D x (g x)) (hb : mrkB e f (names8.take 4) (names8.drop 4) body = true) {H : Hp} {Q : VK} {E : XK} {vs : List V} {Dn : L2.St → Hp → Prop} (q : spMrk a m vs H Q E) :
    ∃ t, PSs Z body t ∧ t { nx := Dn, rt := Q } (L2.start Z.N vs) H := by
  generalize hxs : names8.take 4 = xs at *
  generalize hys : names8.drop 4 = ys at *
  have hlen : (xs ++ ys).length ≤ 100 := by rw [← hxs, ← hys]; decide
  unfold mrkB at hb
  split at hb
  · rename_i i1 y1 i2 y2 y3 y4 y5 y6 y7 y8 f1 y9 ls y10 y11 f2 y12 f3 y13 ms y14 y15 y16 f4 y17 pa y18 y19 pb y20 y21 y22 y23 y24 y25 y26 y27 ws y28 f5 y29 pc y30 y31 pd y32 y33
    simp only [Bool.and_eq_true, decide_eq_true_eq] at hb
    obtain ⟨⟨⟨⟨⟨⟨⟨⟨⟨⟨⟨a1, a2⟩, a3⟩, a4⟩, a5⟩, a6⟩, a7⟩, a8⟩, a9⟩, a10⟩, a11⟩, a12⟩ := hb
    have a3 := a3.symm
    have a4 := a4.symm
    have a5 := a5.symm
    have a6 := a6.symm
    have a7 := a7.symm
    subst a3 a4 a5 a6 a7
    obtain ⟨v1, v2, v3, v4⟩ := mx.vis b1
    obtain ⟨w1, w2, w3, w4⟩ := mx.vis b2
    obtain ⟨u1, u2, u3⟩ := mx.loc b3
    have A1 := AskC.mk' (D := D) (b := true) mx b4 (.inl t1)
    have A2 := AskC.mk' (D := D) (b := true) mx b5 (.inr ⟨"ValueError", by decide, t2.1, by decide +kernel, t2.2⟩)
    obtain ⟨E1, f1', as1, q1, rfl⟩ := pe_is k a1 v1 v2 v3 v4 A1
    obtain ⟨E2, f2', as2, q2, rfl⟩ := pe_is k a2 v1 v2 v3 v4 A2
    have B1 := pa_is k v1 v2 v3 v4 g a8 fun x hx' => hx x (List.mem_append_left _ hx')
    have B2 := pa_is k v1 v2 v3 v4 g a9 fun x hx' => hx x (List.mem_append_right _ hx')
    have C1 := pe_bm (X := Z) (cpos := pb) (apos := pa) PySem.F.plainAttrs_list PySem.F.slot_list_count PySem.F.type_list_count mt_bcount (pe_var (pos := y17) w1 w2 w3 w4) (pa_cons (pe_bl (b := true) (j := y18) (pos := y19)) pa_nil) rfl rfl a10 rfl rfl
    have C2 := pe_bm (X := Z) (cpos := pd) (apos := pc) PySem.F.plainAttrs_list PySem.F.slot_list_index PySem.F.type_list_index mt_index (pe_var (pos := y29) w1 w2 w3 w4) (pa_cons (pe_bl (b := true) (j := y30) (pos := y31)) pa_nil) rfl rfl a11 rfl rfl
    refine ⟨_, pss_cons (ps_if (pw_or (pt_not (pt_truth E1 (fun _ => rfl))) (pw_or1 (pt_not (pt_truth E2 (fun _ => rfl))))).pt (pss_cons (ps_ret pe_str) pss_nil) pss_nil) (pss_cons (ps_set nd u1 u2 (pe_lst B1) rfl u3) (pss_cons (ps_set nd u1 u2 (pe_op (bin_ok .Add) (pe_var w1 w2 w3 w4) (pe_lst B2)) rfl u3)
      (pss_cons (ps_if (pt_cmpR (cmp_ok hu .NotEq) C1 (pe_int (i := 1)) rfl) (pss_cons (ps_ret pe_str) pss_nil) pss_nil) (pss_cons (ps_ret (pe_ix ix_list (pe_lst (pa_marks a12)) C2 (fun _ _ => rfl))) pss_nil)))), ?_⟩
    obtain ⟨rfl, q⟩ := q
    have l1 : xs.length ≤ 100 := by simp at hlen; omega
    have l2 : ys.length ≤ 100 := by simp at hlen; omega
    have st : L2.start Z.N [.ref a] = [some (.ref a), none] := by rw [eN]; rfl
    rw [st]
    refine ⟨rfl, true, rfl, ?_⟩
    simp only [Bool.not_true, Bool.false_eq_true, if_false]
    refine ⟨rfl, true, rfl, ?_⟩
    simp only [Bool.not_true, Bool.false_eq_true, if_false]
    refine ⟨rfl, (by rw [sizeLine_eq]; simp; omega), fun p1 n1 => ?_⟩
    refine ⟨.ref p1, rfl, rfl, (by rw [sizeLine_eq]; simp; omega), fun p2 n2 => ?_⟩
    have hp1 : (upd (upd H p1 (.lst (xs.map fun x => V.bl (g x)))) p2 (.lst (ys.map fun x => V.bl (g x)))) p1 = some (.lst (xs.map fun x => V.bl (g x))) := by
      rw [upd_ne (fun z => by rw [← z, upd_same] at n2; cases n2), upd_same]
    have hp2 : (upd (upd H p1 (.lst (xs.map fun x => V.bl (g x)))) p2 (.lst (ys.map fun x => V.bl (g x)))) p2 = some (.lst (ys.map fun x => V.bl (g x))) := upd_same
    have keep : ∀ b o, H b = some o → (upd (upd H p1 (.lst (xs.map fun x => V.bl (g x)))) p2 (.lst (ys.map fun x => V.bl (g x)))) b = some o := fun b o hbo => by
      have e1 : b ≠ p1 := fun z => by rw [z, n1] at hbo; cases hbo
      have e2 : (upd H p1 (.lst (xs.map fun x => V.bl (g x)))) b = some o := by rw [upd_ne e1]; exact hbo
      rw [upd_ne (fun z => by rw [z, n2] at e2; cases e2)]
      exact e2
    generalize upd (upd H p1 (.lst (xs.map fun x => V.bl (g x)))) p2 (.lst (ys.map fun x => V.bl (g x))) = H2 at *
    have m1 := dm_bls (M := Mf P0 [] []) (H := H2) (xs.map g)
    have m2 := dm_bls (M := Mf P0 [] []) (H := H2) (ys.map g)
    rw [List.map_map] at m1 m2
    have ad : binF .Add (.list ((xs.map g).map PyData.bool)) (.list ((ys.map g).map PyData.bool)) = some (.fr ((xs.map g).map PyData.bool ++ (ys.map g).map PyData.bool)) := by
      have e0 : binF .Add (.list ((xs.map g).map PyData.bool)) (.list ((ys.map g).map PyData.bool)) = if ((xs.map g).map PyData.bool).length + ((ys.map g).map PyData.bool).length ≤ sizeLine then some (.fr ((xs.map g).map PyData.bool ++ (ys.map g).map PyData.bool)) else none := rfl
      rw [e0, if_pos (by rw [sizeLine_eq]; simp; omega)]
    refine ⟨P0, [], [], .list ((xs.map g).map .bool), .list ((ys.map g).map .bool), .fr ((xs.map g).map .bool ++ (ys.map g).map .bool), wd0 H2, .inl (.lst hp1 (fun z => mf0 z) m1), .inl (.lst hp2 (fun z => mf0 z) m2), ad, fun v H' x w vo => ?_⟩
    obtain ⟨p, us, rfl, _, _, hp, _, t, _⟩ := vo
    have hp3 : H' p = some (.lst ((hot8 m).map V.bl)) := by
      rw [← List.map_append] at t
      have := DmAll.bls t
      rw [hp, this, ← List.map_append, hg]
    have kp3 : Kp H H' := Kp.trans (Kp.of keep) (ex0_keep x)
    refine ⟨.ref p, rfl, .inl ⟨rfl, _, .of hp3⟩, p, hot8 m, true, rfl, rfl, .of hp3, ?_⟩
    rw [hot8_cnt m hm]
    refine ne_one fun H3 k3 => ⟨false, rfl, ?_⟩
    have hp4 := k3.keep _ _ hp3 (nt_lst _)
    simp only [Bool.false_eq_true, if_false]
    refine tStrs_ok ⟨by rw [sizeLine_eq]; decide, fun p5 n5 => ?_⟩
    have hp6 : (upd H3 p5 (.lst (marks8.map V.str))) p = some (.lst ((hot8 m).map V.bl)) := by
      rw [upd_ne (fun z => by rw [← z, hp4] at n5; cases n5)]
      exact hp4
    refine ⟨.ref p, rfl, .inl ⟨rfl, _, .of hp6⟩, p, (hot8 m).map V.bl, .bl true, m, .bl true, rfl, rfl, .of hp6, rfl, hot8_flat m hm, by rw [List.getElem?_map, (hot8_ix m hm).1]; rfl, rfl, fun i z' hi hz => ?_, ?_⟩
    · rw [List.getElem?_map, (hot8_ix m hm).2 i hi] at hz
      cases hz
      rfl
    · exact ⟨p5, marks8.map V.str, (m : Int), .str (marks8.getD m ""), rfl, rfl, .of upd_same, atI_nat (by rw [List.getElem?_map, marks_ix m hm]; rfl), q _ (Kp.trans (Kp.trans kp3 k3) (Kp.upd n5))⟩
  · cases hb
end TL
/-! T15h: the suite that tells an exception by its number -/
namespace TL
open PySem PySem.Spec PyProof.Rows L2 L2H
set_option autoImplicit false
def clsC (st : Stmt) : MC := ⟨["_law_e", "_law_found"], defScope st, fun _ => true, [], false⟩
def onlC (st : Stmt) : MC := ⟨["_law_e", "_law_place", "_law_k"], defScope st, fun _ => true, [], false⟩
def clsM (st : Stmt) : Bool := clsB "_law_e" "_law_found" (names8.take 4) (names8.drop 4) (defBody st) && visB (clsC st) 0 "_law_e" && visB (clsC st) 1 "_law_found" && locB (clsC st) 1 "_law_found" && glB (clsC st) "isinstance" && names8.all (glB (clsC st))
def onlM (st : Stmt) : Bool := onlB (onlC st) "_law_e" "_law_place" "_law_k" "_law_classes" (defBody st) && glB (onlC st) "isinstance"
def mrkM (st : Stmt) : Bool := mrkB "_law_e" "_law_found" (names8.take 4) (names8.drop 4) (defBody st) && visB (clsC st) 0 "_law_e" && visB (clsC st) 1 "_law_found" && locB (clsC st) 1 "_law_found" && glB (clsC st) "isinstance" && names8.all (glB (clsC st)) && glB (clsC st) "TurnError" && glB (clsC st) "ValueError"
/-- what the module's top has left for a try -/
structure TryTop (K : PySem.W.Frag) (mg : Str → Option Value) (xs : List Str) : Prop where
  cls : fmA xs = false → ∃ st a fd, mg "_law_classes" = some (.ref a) ∧ Fun K "_law_classes" "_law_classes" st a fd ∧ Binds K fd ["_law_e"] [] ∧ FnScope ["_law_e", "_law_found"] ["_law_e"] (defScope st) ∧ clsM st = true
  mrk : fmA xs = true → ∃ st a fd, mg "_law_marks" = some (.ref a) ∧ Fun K "_law_marks" "_law_marks" st a fd ∧ Binds K fd ["_law_e"] [] ∧ FnScope ["_law_e", "_law_found"] ["_law_e"] (defScope st) ∧ mrkM st = true
  onl : fmA xs = false → ∃ st a fd, mg "_law_only" = some (.ref a) ∧ Fun K "_law_only" "_law_only" st a fd ∧ Binds K fd ["_law_e", "_law_place"] [] ∧ FnScope ["_law_e", "_law_place", "_law_k"] ["_law_e", "_law_place"] (defScope st) ∧ onlM st = true
  trn : ∃ T, mg "TurnError" = some (.ref T) ∧ ∀ x ∈ xs, x ∈ names8 → ∀ D, mg x = some (.ref D) → PySem.W.kitOne K (.ref D) (.ref T) = some true ∧ PySem.W.exmOne K (.ref D) (.ref T) = some true
  val : mg "ValueError" = none ∧ ∀ x ∈ xs, x ∈ names8 → ∀ D, mg x = some (.ref D) → PySem.W.kitOne K (.ref D) (.type "ValueError") = some true
  ask : ∀ y ∈ names8, ∃ C, mg y = some (.ref C) ∧ ∀ x ∈ xs, x ∈ names8 → ∀ D, mg x = some (.ref D) → PySem.W.kitOne K (.ref D) (.ref C) = some (decide (y = x))
  exc : ∀ x ∈ xs, x ∈ names8 → ∀ D, mg x = some (.ref D) → ExcC K D
  isi : mg "isinstance" = none
  rng : mg "range" = none
theorem hot_names : ∀ x ∈ names8, (names8.take 4 ++ names8.drop 4).map (fun y => decide (y = x)) = hot8 (names8.idxOf x) ∧ names8.idxOf x < 8 := by decide +kernel
section
variable {P : Program} {w : World} {K : PySem.W.Frag} {mg : Str → Option Value} {base : Heap} {xs : List Str}
theorem clsP (T : TryTop K mg xs) (fB : fmA xs = false) {x : Str} (hx : x ∈ xs) (h8 : x ∈ names8) {D a : Addr} (hD : mg x = some (.ref D)) {oe : Obj} (hz : Zc (.ref D) none oe) (hf : ∃ vs, oe.data = .fields vs) (k : Nat) :
    ∃ f fd, mg "_law_classes" = some (.ref f) ∧ PySem.W.keepIn K (.ref f) = true ∧ Binds K fd ["_law_e"] [] ∧ FnP P w K mg base (k + 1) f fd ["_law_e"] (spCls a (hot8 (names8.idxOf x))) (a, oe) := by
  obtain ⟨st, f, fd, g1, Fu, g2, sc, g3⟩ := T.cls fB
  have kf := Fu.kp
  obtain ⟨oc, od, kV, doc, pm, an, cdv, ct, osl, rfl, lk, hcd⟩ := Fu.ex
  refine ⟨f, _, g1, kf, g2, fnP_of (N := ["_law_e", "_law_found"]) lk hcd sc (fun vs H Q E h => by rw [h.1]; rfl) fun A outer s H vs Q E hot room q => ?_⟩
  unfold clsM at g3
  simp only [Bool.and_eq_true] at g3
  obtain ⟨⟨⟨⟨⟨b1, b2⟩, b3⟩, b4⟩, b5⟩, b6⟩ := g3
  have mx : Mx (cxH (L2N.CX P w) P w K mg base ["_law_e", "_law_found"] "_law_classes" (defScope st) f cdv A outer s H E (a, oe)) (clsC st) := ⟨rfl, rfl, rfl⟩
  obtain ⟨v1, v2, v3, v4⟩ := mx.vis b2
  obtain ⟨w1, w2, w3, w4⟩ := mx.vis b3
  obtain ⟨u1, u2, u3⟩ := mx.loc b4
  refine cls_body (g := fun y => decide (y = x)) (a := a) (D := D) (oe := oe) ⟨List.mem_singleton.mpr rfl, hot, hz, hf, T.exc x hx h8 D hD, (mx.gl b5).1, T.isi⟩ sc.nd rfl v2 u2 u3 v3 v4 w3 w4 b1 (fun y hy => ?_) (by decide) (by rw [(hot_names x h8).1]; exact q)
  have hy : y ∈ names8 := by rwa [List.take_append_drop] at hy
  obtain ⟨C, c1, c2⟩ := T.ask y hy
  exact AskC.mk' mx (List.all_eq_true.mp b6 y hy) (.inl ⟨C, c1, c2 x hx h8 D hD⟩)
theorem mrkP (T : TryTop K mg xs) (fA : fmA xs = true) {x : Str} (hx : x ∈ xs) (h8 : x ∈ names8) {D a : Addr} (hD : mg x = some (.ref D)) {oe : Obj} (hz : Zc (.ref D) none oe) (hf : ∃ vs, oe.data = .fields vs) (k : Nat) :
    ∃ f fd, mg "_law_marks" = some (.ref f) ∧ PySem.W.keepIn K (.ref f) = true ∧ Binds K fd ["_law_e"] [] ∧ FnP P w K mg base (k + 1) f fd ["_law_e"] (spMrk a (names8.idxOf x)) (a, oe) := by
  obtain ⟨st, f, fd, g1, Fu, g2, sc, g3⟩ := T.mrk fA
  have kf := Fu.kp
  obtain ⟨oc, od, kV, doc, pm, an, cdv, ct, osl, rfl, lk, hcd⟩ := Fu.ex
  refine ⟨f, _, g1, kf, g2, fnP_of (N := ["_law_e", "_law_found"]) lk hcd sc (fun vs H Q E h => by rw [h.1]; rfl) fun A outer s H vs Q E hot room q => ?_⟩
  unfold mrkM at g3
  simp only [Bool.and_eq_true] at g3
  obtain ⟨⟨⟨⟨⟨⟨⟨b1, b2⟩, b3⟩, b4⟩, b5⟩, b6⟩, b7⟩, b8⟩ := g3
  have mx : Mx (cxH (L2N.CX P w) P w K mg base ["_law_e", "_law_found"] "_law_marks" (defScope st) f cdv A outer s H E (a, oe)) (clsC st) := ⟨rfl, rfl, rfl⟩
  obtain ⟨TT, t1, t2⟩ := T.trn
  refine mrk_body (g := fun y => decide (y = x)) (a := a) (D := D) (oe := oe) ⟨List.mem_singleton.mpr rfl, hot, hz, hf, T.exc x hx h8 D hD, (mx.gl b5).1, T.isi⟩ mx sc.nd rfl (by have := room.un; show (A.deeper (envOfC "_law_marks" (defScope st) s.heap.objs.size f cdv)).units + 65 < cLine; omega) b2 b3 b4 b7 b8 ⟨TT, t1, (t2 x hx h8 D hD).1⟩ ⟨T.val.1, T.val.2 x hx h8 D hD⟩ (hot_names x h8).2 (hot_names x h8).1 (fun y hy => ?_) b1 q
  have hy : y ∈ names8 := by rwa [List.take_append_drop] at hy
  obtain ⟨C, c1, c2⟩ := T.ask y hy
  exact AskC.mk' mx (List.all_eq_true.mp b6 y hy) (.inl ⟨C, c1, c2 x hx h8 D hD⟩)
theorem onlP (T : TryTop K mg xs) (fB : fmA xs = false) {x : Str} (hx : x ∈ xs) (h8 : x ∈ names8) {D a : Addr} (hD : mg x = some (.ref D)) {oe : Obj} (hz : Zc (.ref D) none oe) (hf : ∃ vs, oe.data = .fields vs) :
    ∃ f fd, mg "_law_only" = some (.ref f) ∧ PySem.W.keepIn K (.ref f) = true ∧ Binds K fd ["_law_e", "_law_place"] [] ∧ FnP P w K mg base 2 f fd ["_law_e", "_law_place"] (spOnl a (names8.idxOf x)) (a, oe) := by
  obtain ⟨st, f, fd, g1, Fu, g2, sc, g3⟩ := T.onl fB
  have kf := Fu.kp
  obtain ⟨oc, od, kV, doc, pm, an, cdv, ct, osl, rfl, lk, hcd⟩ := Fu.ex
  refine ⟨f, _, g1, kf, g2, fnP_of (N := ["_law_e", "_law_place", "_law_k"]) lk hcd sc (fun vs H Q E h => by obtain ⟨j, _, h, _⟩ := h; rw [h]; rfl) fun A outer s H vs Q E hot room q => ?_⟩
  unfold onlM at g3
  simp only [Bool.and_eq_true] at g3
  obtain ⟨b1, b2⟩ := g3
  have mx : Mx (cxH (L2N.CX P w) P w K mg base ["_law_e", "_law_place", "_law_k"] "_law_only" (defScope st) f cdv A outer s H E (a, oe)) (onlC st) := ⟨rfl, rfl, rfl⟩
  obtain ⟨fc, fdc, c1, c2, c3, c4⟩ := clsP (P := P) (w := w) (base := base) (a := a) T fB hx h8 hD hz hf 0
  obtain ⟨TT, t1, t2⟩ := T.trn
  exact onl_body (a := a) (D := D) (oe := oe) (k := 1) ⟨List.mem_singleton.mpr rfl, hot, hz, hf, T.exc x hx h8 D hD, (mx.gl b2).1, T.isi⟩ mx sc.nd rfl room c4 c1 c2 c3 T.rng ⟨TT, t1, (t2 x hx h8 D hD).1⟩ ⟨T.val.1, T.val.2 x hx h8 D hD⟩ (hot_names x h8).2 b1 q
end
theorem filt8 : ∀ m, m < 8 → ((List.range 8).filter fun i => decide (i = m)) = [m] := by decide +kernel
/-- the suite's list -/
theorem suf_ok {X : Cx} {c : MC} {a : Addr} {oe : Obj} {f : Addr} {fd : FuncData} {ps : List Str} {m k i j : Nat} {n : Str} {e : Expr} (mx : Mx X c) (nd : X.N.Nodup) (hot : Hot1 X.A (a, oe)) (hp : (a, oe) ∈ X.pn) (F : FnP X.prog X.w X.K X.mg X.base k f fd ps (spOnl a m) (a, oe)) (room : RoomH k X.A)
    (hm : X.mg "_law_only" = some (.ref f)) (hk : PySem.W.keepIn X.K (.ref f) = true) (hb : Binds X.K fd ps []) (rng : X.mg "range" = none) (h8 : m < 8) (h : sufB c i j n e = true) :
    PE X e (fun σ H Q => σ[i]? = some (some (.ref a)) ∧ j < σ.length ∧ ∀ L H', H L = none → Kp H H' → H' L = some (.lst [.int (m : Int)]) → Q (.ref L) H') := by
  unfold sufB at h
  split at h
  · rename_i p1 x1 p2 x2 r x3 x4 x5 x6 ff x7 n1 x8 p3 x9 x10 scope x11
    simp only [Bool.and_eq_true, decide_eq_true_eq] at h
    obtain ⟨⟨⟨⟨⟨⟨⟨⟨⟨⟨⟨b1, b2⟩, b3⟩, b4⟩, b5⟩, b6⟩, b7⟩, b8⟩, b9⟩, b10⟩, b11⟩, b12⟩ := h
    subst b1 b2 b3 b4 b5
    rw [mx.N, mx.sc] at b7
    refine (pe_lcH (X := X) (p := (a, oe)) (pos := x11) (scope := scope) (tt := fun σ H Q => tC0 (spOnl a m) (tCons (tVar i) (tCons (tVar j) tNil)) σ H fun x H' => ∃ k, TruV X.K x H' k ∧ Q k H') hot hp nd (pi_range1H (p := x3) (pos := x6) (tg := .Name p3 x2) (mx.gl b6).1 rng (pa_cons (pe_int (i := 8) (j := x4) (pos := x5)) pa_nil)) (blkOk_by b7)
      (fun s H C cl fp => pg_name nd (((mx.blkH (a, oe) s H C cl fp scope).loc b8).1) (((mx.blkH (a, oe) s H C cl fp scope).loc b8).2.1) (((mx.blkH (a, oe) s H C cl fp scope).loc b8).2.2))
      (fun s H C cl fp => by
        obtain ⟨w1, w2, w3, w4⟩ := (mx.blkH (a, oe) s H C cl fp scope).vis b9
        obtain ⟨u1, u2, u3, u4⟩ := (mx.blkH (a, oe) s H C cl fp scope).vis b10
        obtain ⟨z1, z2⟩ := (mx.blkH (a, oe) s H C cl fp scope).gl b11
        exact pts_one (pt_truth (pe_callP (X := blkH X (a, oe) s H scope (compEnvC scope cl C X.env) fp) (pos := x10) (q := x7) F room hot (List.mem_singleton.mpr rfl) z1 hm hk hb (pa_cons (pe_var (pos := x8) u1 u2 u3 u4) (pa_cons (pe_var (pos := x9) w1 w2 w3 w4) pa_nil)) z2 rfl rfl) (fun _ => rfl)))
      (fun s H C cl fp => by
        obtain ⟨w1, w2, w3, w4⟩ := (mx.blkH (a, oe) s H C cl fp scope).vis b9
        exact pe_var (pos := x1) w1 w2 w3 w4) (fun x => rfl)).imp fun σ H Q ⟨q1, q2, q3⟩ => ?_
    have at1 : ∀ u : V, ((wipe σ [j]).set j (some u))[i]? = some (some (.ref a)) := fun u => by
      rw [List.getElem?_set_ne (Ne.symm b12)]
      simp [wipe, List.getElem?_set_ne (Ne.symm b12), q1]
    have at2 : ∀ u : V, ((wipe σ [j]).set j (some u))[j]? = some (some u) := fun u => by
      rw [List.getElem?_set_self (by simpa [wipe] using q2)]
    refine lc_rng (n := 8) (fun y => decide (y = m)) (fun y => .int (y : Int)) (by omega) (fun Q' q' => q') (fun y hy H' Q' _ q' => ?_) (fun y hy _ H' Q' _ q' => ?_) fun L H' h0 k1 h1 => q3 L H' h0 k1 ?_
    · exact ⟨.ref a, at1 _, .int (y : Int), at2 _, y, hy, rfl, fun H3 k3 => ⟨_, rfl, q' H3 k3⟩⟩
    · exact ⟨.int (y : Int), at2 _, q' H' (Kp.refl _)⟩
    · rw [h1, filt8 m h8]
      rfl
  · cases h
/-- .. or its word -/
theorem sufM_ok {X : Cx} {c : MC} {a : Addr} {oe : Obj} {f : Addr} {fd : FuncData} {ps : List Str} {m k i : Nat} {n : Str} {e : Expr} (mx : Mx X c) (hot : Hot1 X.A (a, oe)) (hp : (a, oe) ∈ X.pn) (F : FnP X.prog X.w X.K X.mg X.base k f fd ps (spMrk a m) (a, oe)) (room : RoomH k X.A)
    (hm : X.mg "_law_marks" = some (.ref f)) (hk : PySem.W.keepIn X.K (.ref f) = true) (hb : Binds X.K fd ps []) (h : sufM c i n e = true) :
    PE X e (fun σ H Q => σ[i]? = some (some (.ref a)) ∧ ∀ H', Kp H H' → Q (.str (marks8.getD m "")) H') := by
  unfold sufM at h
  split at h
  · rename_i ff x1 n1 x2 x3
    simp only [Bool.and_eq_true, decide_eq_true_eq] at h
    obtain ⟨⟨⟨b1, b2⟩, b3⟩, b4⟩ := h
    subst b1 b2
    obtain ⟨u1, u2, u3, u4⟩ := mx.vis b4
    exact (pe_callP (X := X) (pos := x3) (q := x1) F room hot hp (mx.gl b3).1 hm hk hb (pa_cons (pe_var (pos := x2) u1 u2 u3 u4) pa_nil) (mx.gl b3).2 rfl rfl).imp fun σ H Q ⟨q1, q2⟩ => ⟨.ref a, q1, rfl, q2⟩
  · cases h
end TL
/-! T16: statements (end), soundness of all -/
namespace TL
open PySem PySem.Spec L2
set_option autoImplicit false
section
variable {X : Cx} {c : MC} {W : WX} {γ : Str → Option D} {R : Str → Option (List Vl → Mu → Rs Vl)} {k : Nat} (co : Co X c W γ R k) (F : Nat)
include co
theorem s_exp {e : E} {st : Stmt} (h : matS c (.exp e) st = true) : PS X st (rS X W γ R F (.exp e)) := by
  simp only [matS] at h
  split at h
  · rename_i v pos
    simp only [Bool.and_eq_true, Bool.not_eq_true'] at h
    refine (ps_expr ((snd γ R k e).pe X c W co v h.1) (sw_of h.1 h.2 _ _ _)).imp fun D σ H ⟨ρ, μ, P, as, w, ro, f⟩ => ?_
    simp only [exec] at f
    exact ⟨ρ, μ, P, as, w, ro, (FinS.st f).mono fun x μ1 H1 as1 _ ⟨e1, w1, f1⟩ v vo => f1 σ H1 as1 e1 w1 (ro.ex e1)⟩
  · cases h
theorem s_ret {e : E} {st : Stmt} (h : matS c (.ret e) st = true) : PS X st (rS X W γ R F (.ret e)) := by
  simp only [matS] at h
  split at h
  · rename_i v pos
    refine (ps_ret ((snd γ R k e).pe X c W co v h)).imp fun D σ H ⟨ρ, μ, P, as, w, ro, f⟩ => ?_
    simp only [exec] at f
    exact ⟨ρ, μ, P, as, w, ro, (FinS.st f).mono fun x μ1 H1 as1 _ ⟨e1, w1, f1⟩ v vo => f1 v H1 as1 e1 w1 vo⟩
  · cases h
theorem s_retN {st : Stmt} (h : matS c .retN st = true) : PS X st (rS X W γ R F .retN) := by
  simp only [matS] at h
  split at h
  · refine ps_retN.imp fun D σ H ⟨ρ, μ, P, as, w, ro, f⟩ => ?_
    simp only [exec] at f
    exact f _ H as Ex.refl w (Dm.non)
  · cases h
theorem s_pass {st : Stmt} (h : matS c .pass st = true) : PS X st (rS X W γ R F .pass) := by
  simp only [matS] at h
  split at h
  · refine ps_pass.imp fun D σ H ⟨ρ, μ, P, as, w, ro, f⟩ => ?_
    simp only [exec] at f
    exact f σ H as Ex.refl w ro
  · cases h
theorem s_brk {st : Stmt} (h : matS c .brk st = true) : PS X st (rS X W γ R F .brk) := by
  simp only [matS] at h
  split at h
  · refine ps_break.imp fun D σ H ⟨ρ, μ, P, as, w, ro, f⟩ => ?_
    simp only [exec] at f
    exact f σ H as Ex.refl w ro
  · cases h
theorem s_cont {st : Stmt} (h : matS c .cont st = true) : PS X st (rS X W γ R F .cont) := by
  simp only [matS] at h
  split at h
  · refine ps_continue.imp fun D σ H ⟨ρ, μ, P, as, w, ro, f⟩ => ?_
    simp only [exec] at f
    exact f σ H as Ex.refl w ro
  · cases h
omit co in
/-- an exception of an own class is made of a value -/
theorem pmk_e {C : Addr} {bmB : List Value} {B newId initId : String} {x : Str} {a : Expr} {ta : TE} {p pos : Pos} (F : ExcBaseFacts B newId initId bmB) (q : PySem.W.excIn X.K C bmB newId = true) (gC : X.mg x = some (.ref C)) (kC : PySem.W.keepIn X.K (.ref C) = true) (r : Raises X (.ref C)) (hg : Gl X x)
    (ha : PE X a ta) (hs : starEach [a] X.env = (false, eval a X.env) :: starEach [] X.env) (hd : (x == ("__debug__" : Str)) = false) : L2N.PMk X (.Call (.Name x p) [a] [] pos) (fun σ H Q => ta σ H fun _ H1 => Q (.ref C) none H1) := by
  intro pins s σ H Q I h
  refine wpAny_Call_Name_kw (ld_glob I hg gC ?_ hd)
  refine PySem.W.callWith_K (h₀ := X.base) I.ok.mod.kin kC ?_ hs (by rfl)
  rw [hs]
  show wpAny _ _ (spliced ((false, eval a X.env) :: backTo pos (starEach [] X.env))) _ _ s
  refine Calls.spliced_cons (thn (ha.run pins s σ H _ I h) fun u s1 ⟨v, H1, I1, r1, q1⟩ => Calls.spliced_nil ⟨I1.kIn, ?_⟩)
  show wpAny _ _ (call (.ref C) [u]) _ _ _
  obtain ⟨bm, N, nm, qn, bs, c1, c2, c3, c4, c5, c6, k0, k1, k2, k3, k5, mN, hC, hN, hni, T⟩ := exc_obj I1.kIn q
  exact wpAny_call_exc_subT F T hC hN hni (fun h' e hm => L2N.mk_of I1 hm r q1 (I1.hok.gone hm.new)) (by show 1 ≤ sizeLine; rw [sizeLine_eq]; omega)
theorem s_raise {x : Str} {e : E} {st : Stmt} (h : matS c (.raise x e) st = true) : PS X st (rS X W γ R F (.raise x e)) := by
  simp only [matS] at h
  split at h
  · rename_i y p a q pos
    simp only [Bool.and_eq_true, decide_eq_true_eq] at h
    obtain ⟨⟨⟨rfl, h1⟩, h2⟩, h3⟩ := h
    obtain ⟨C, B, newId, initId, bmB, b1, b2, b3, b4, b5, b6⟩ := co.exb x h3
    refine (L2N.ps_raise co.calm co.tk (pmk_e b1 b2 b3 b4 (raises_own b5 b6) (co.gl h1).1 ((snd γ R k e).pe X c W co a h2) (star_of h2 [] X.env) (co.gl h1).2)).imp fun D σ H ⟨ρ, μ, P, as, w, ro, f⟩ => ?_
    simp only [exec] at f
    exact ⟨ρ, μ, P, as, w, ro, (FinS.st f).mono fun x μ1 H1 as1 _ ⟨e1, w1, f1⟩ v vo => f1 σ H1 as1 C e1 w1 b3⟩
  · cases h
theorem s_ite {t : E} {a b : S} {st : Stmt} (ha : ∀ l, matSs c a l = true → PSs X l (rS X W γ R F a)) (hb : ∀ l, matSs c b l = true → PSs X l (rS X W γ R F b)) (h : matS1 c (.ite t a b) st = true) : PS X st (rS X W γ R F (.ite t a b)) := by
  simp only [matS1] at h
  split at h
  · rename_i u l r pos
    simp only [Bool.and_eq_true] at h
    obtain ⟨⟨h1, h2⟩, h3⟩ := h
    refine (ps_if ((snd γ R k t).pt X c W co u h1) (ha l h2) (hb r h3)).imp fun D σ H ⟨ρ, μ, P, as, w, ro, f⟩ => ?_
    simp only [exec] at f
    refine ⟨ρ, μ, P, as, w, ro, (FinS.st f).mono fun kk μ1 H1 as1 _ ⟨e1, w1, f1⟩ => ?_⟩
    cases kk with
    | true =>
      rw [if_pos rfl] at f1 ⊢
      exact ⟨ρ, μ1, P, as1, w1, ro.ex e1, f1.step e1⟩
    | false =>
      rw [if_neg Bool.false_ne_true] at f1 ⊢
      exact ⟨ρ, μ1, P, as1, w1, ro.ex e1, f1.step e1⟩
  · cases h
theorem s_loop {ts : List Nat} {it : E} {b : S} {st : Stmt} (hb : ∀ l, matSs c b l = true → PSs X l (rS X W γ R F b)) (h : matS1 c (.loop ts it b) st = true) : PS X st (rS X W γ R F (.loop ts it b)) := by
  simp only [matS1] at h
  split at h
  · rename_i tg iter l pos
    simp only [Bool.and_eq_true] at h
    obtain ⟨⟨h1, h2⟩, h3⟩ := h
    have h4 : PI X tg iter (rI' X W γ R it) ∧ ∀ x, foldedSetIterable iter X.env x = pure x := by
      rw [Bool.or_eq_true, Bool.and_eq_true] at h2
      rcases h2 with h2 | ⟨h2, h2'⟩
      · exact ⟨(snd γ R k it).pi X c W co tg iter h2, noSetI_of h2 X.env⟩
      · cases it with
        | zip a b =>
          refine ⟨i_zip co ((snd γ R k a).pe X c W co) ((snd γ R k b).pe X c W co) h2 h2', fun x => ?_⟩
          cases iter with
          | Set l n p => exact absurd h2' Bool.false_ne_true
          | _ => rfl
        | _ => exact absurd h2' Bool.false_ne_true
    refine (ps_for co.po co.calm h4.1 (pg_of co h1) (hb l h3) h4.2).imp fun D σ H ⟨ρ, μ, P, as, w, ro, f⟩ => ?_
    simp only [exec] at f
    refine ⟨ρ, μ, P, as, w, ro, (FinS.st f).mono fun ds μ1 H1 as1 _ ⟨e1, w1, f1⟩ J wk => ?_⟩
    let B := exec R γ F b
    let Inv' : Nat → L2.St → Hp → Prop := fun i σ' H' => i ≤ ds.length ∧ ∃ as' μ' ρ', Ex P H1 as1 μ1 H' as' μ' ∧ Wd P H' as' μ' ∧ RoOk X.K P H' as' μ' σ' ρ' ∧ FinS X.mg W X.K D P H' as' μ' (forL ts B (ds.drop i) ρ' μ')
    refine ⟨fun i m σ' H' => m = ds.length - i ∧ Inv' i σ' H', ⟨ds.length, by simp, Nat.zero_le _, as1, μ1, ρ, Ex.refl, w1, ro.ex e1, ?_⟩, ?_⟩
    · rw [List.drop_zero]
      exact f1.step e1
    · rintro i m σ' H' ⟨rfl, hi, as', μ', ρ', ex, w', ro', f'⟩
      by_cases hlt : i < ds.length
      · refine .inr ⟨wk.go _ P i H' as' μ' (fun a h => .inl h) ex w' hlt, Inv' (i + 1), fun σ2 H2 p => ⟨ds.length - (i + 1), by omega, rfl, p⟩, fun x H2 hy => ?_⟩
        obtain ⟨d, hd, dmx, exy, wy⟩ := wk.yld _ P i H' as' μ' x H2 (fun a h => .inl h) ex w' hlt hy
        have hdrop : ds.drop i = d :: ds.drop (i + 1) := by
          rw [List.drop_eq_getElem_cons hlt]
          rw [List.getElem?_eq_getElem hlt] at hd
          cases hd
          rfl
        rw [hdrop] at f'
        simp only [forL] at f'
        split at f'
        · exact f'.elim
        · rename_i ρ1 hbd
          refine g_run (tgOk_of h1) ((ro'.ex exy).but ts) dmx hbd fun σ2 ro2 _ _ => ⟨ρ1, μ', P, as', wy, ro2, ?_⟩
          show FinS _ _ _ _ _ _ _ _ (B ρ1 μ')
          have f2 := f'.step exy
          cases hB : B ρ1 μ' with
          | nx ρ2 μ2 =>
            rw [hB] at f2
            exact fun σ3 H3 as3 e3 w3 ro3 => ⟨hlt, as3, μ2, ρ2, (ex.trans exy).trans e3, w3, ro3, f2.step e3⟩
          | ct ρ2 μ2 =>
            rw [hB] at f2
            exact fun σ3 H3 as3 e3 w3 ro3 => ⟨hlt, as3, μ2, ρ2, (ex.trans exy).trans e3, w3, ro3, f2.step e3⟩
          | bk ρ2 μ2 => rw [hB] at f2; exact f2
          | rt y μ2 => rw [hB] at f2; exact f2
          | exc cc μ2 => rw [hB] at f2; exact f2
          | bad => rw [hB] at f2; exact f2
      · have hi' : i = ds.length := by omega
        subst hi'
        rw [List.drop_length] at f'
        exact .inl ⟨wk.stop _ P _ H' as' μ' (fun a h => .inl h) ex w' (Nat.le_refl _), f' σ' H' as' Ex.refl w' ro'⟩
  · cases h
theorem s_whl {t : E} {b : S} {st : Stmt} (hb : ∀ l, matSs c b l = true → PSs X l (rS X W γ R F b)) (h : matS1 c (.whl t b) st = true) : PS X st (rS X W γ R F (.whl t b)) := by
  simp only [matS1] at h
  split at h
  · rename_i u l pos
    simp only [Bool.and_eq_true] at h
    obtain ⟨h1, h3⟩ := h
    refine (ps_while co.po ((snd γ R k t).pt X c W co u h1) (hb l h3)).imp fun D σ H ⟨ρ, μ, P, as, w, ro, f⟩ => ?_
    simp only [exec] at f
    let B := exec R γ F b
    let C := evB R γ t
    let Inv' : Nat → L2.St → Hp → Prop := fun m σ' H' => ∃ as' μ' ρ', Wd P H' as' μ' ∧ RoOk X.K P H' as' μ' σ' ρ' ∧ FinS X.mg W X.K D P H' as' μ' (whlL C B m ρ' μ')
    refine ⟨Inv', ⟨F, as, μ, ρ, w, ro, f⟩, ?_⟩
    rintro m σ' H' ⟨as', μ', ρ', w', ro', f'⟩
    cases m with
    | zero => exact f'.elim
    | succ m =>
      simp only [whlL] at f'
      refine ⟨ρ', μ', P, as', w', ro', ?_⟩
      show Fin _ _ _ _ _ _ _ (C ρ' μ') _
      cases hC : C ρ' μ' with
      | ok kk μ1 =>
        rw [hC] at f'
        intro H1 as1 e1 w1
        cases kk with
        | true =>
          rw [if_pos rfl]
          refine ⟨Inv' m, fun σ2 H2 p => ⟨m, Nat.lt_succ_self m, p⟩, ρ', μ1, P, as1, w1, ro'.ex e1, ?_⟩
          show FinS _ _ _ _ _ _ _ _ (B ρ' μ1)
          have f2 := f'.step e1
          simp only at f2
          cases hB : B ρ' μ1 with
          | nx ρ2 μ2 =>
            rw [hB] at f2
            exact fun σ3 H3 as3 e3 w3 ro3 => ⟨as3, μ2, ρ2, w3, ro3, f2.step e3⟩
          | ct ρ2 μ2 =>
            rw [hB] at f2
            exact fun σ3 H3 as3 e3 w3 ro3 => ⟨as3, μ2, ρ2, w3, ro3, f2.step e3⟩
          | bk ρ2 μ2 => rw [hB] at f2; exact f2
          | rt y μ2 => rw [hB] at f2; exact f2
          | exc cc μ2 => rw [hB] at f2; exact f2
          | bad => rw [hB] at f2; exact f2
        | false =>
          rw [if_neg Bool.false_ne_true]
          exact f' σ' H1 as1 e1 w1 (ro'.ex e1)
      | exc cc μ1 =>
        rw [hC] at f'
        exact fun H1 as1 C e w g => f' σ' H1 as1 C e w g
      | bad => rw [hC] at f'; exact f'
  · cases h
theorem s_gh {i : Nat} {a : S} {st : Stmt} (ha : ∀ st, matS1 c a st = true → PS X st (rS X W γ R F a)) (h : matS1 c (.gh i a) st = true) : PS X st (rS X W γ R F (.gh i a)) := by
  simp only [matS1] at h
  refine (ha st h).imp fun D σ H ⟨ρ, μ, P, as, w, ro, f⟩ => ?_
  simp only [exec] at f
  split at f
  · rename_i n q
    split at f
    · rename_i xs qn
      obtain ⟨v, hv, p, hp, rfl⟩ := ro.2.1 i _ q
      refine ⟨ρ.set i (some (.dt (.list xs))), μ.set n none, P, as, w.off n, ?_, f.step Ex.off⟩
      obtain ⟨p', e1, e2, vs, q1, q2⟩ := w.obj n _ qn
      rw [hp] at e1
      cases e1
      have dm : Dm (Mf P as (μ.set n none)) H (.ref p) (.list xs) := by
        refine .lst q1 ?_ (q2.ex Ex.off)
        rintro (z | ⟨m, e, z1, z2⟩)
        · exact e2 z
        · obtain ⟨z3, z4⟩ := set_none z2
          exact z3 (w.inj m n p e _ z1 hp z4 qn)
      have hs : σ.set i (some (.ref p)) = σ := by
        apply List.ext_getElem?
        intro j
        by_cases e : i = j
        · subst e
          rw [List.getElem?_set_self (List.getElem?_eq_some_iff.mp hv).1, hv]
        · rw [List.getElem?_set_ne e]
      have := (ro.ex (Ex.off (n := n))).set (i := i) (x := .dt (.list xs)) dm
      rw [hs] at this
      exact this
    · exact f.elim
  · exact ⟨ρ, μ, P, as, w, ro, f⟩
theorem ss_nil {l : List Stmt} (h : matSs c .nil l = true) : PSs X l (rS X W γ R F .nil) := by
  cases l with
  | nil =>
    refine pss_nil.imp fun D σ H ⟨ρ, μ, P, as, w, ro, f⟩ => ?_
    simp only [exec] at f
    exact f σ H as Ex.refl w ro
  | cons _ _ => simp [matSs] at h
theorem ss_cons {a r : S} {l : List Stmt} (ha : ∀ st, matS1 c a st = true → PS X st (rS X W γ R F a)) (hr : ∀ l, matSs c r l = true → PSs X l (rS X W γ R F r)) (h : matSs c (.cons a r) l = true) : PSs X l (rS X W γ R F (.cons a r)) := by
  cases l with
  | nil => simp [matSs] at h
  | cons st rest =>
    simp only [matSs, Bool.and_eq_true] at h
    refine (pss_cons (ha st h.1) (hr rest h.2)).imp fun D σ H ⟨ρ, μ, P, as, w, ro, f⟩ => ?_
    simp only [exec] at f
    refine ⟨ρ, μ, P, as, w, ro, ?_⟩
    cases hA : exec R γ F a ρ μ with
    | nx ρ2 μ2 =>
      rw [hA] at f
      exact fun σ3 H3 as3 e3 w3 ro3 => ⟨ρ2, μ2, P, as3, w3, ro3, f.step e3⟩
    | ct ρ2 μ2 => rw [hA] at f; exact f
    | bk ρ2 μ2 => rw [hA] at f; exact f
    | rt y μ2 => rw [hA] at f; exact f
    | exc cc μ2 => rw [hA] at f; exact f
    | bad => rw [hA] at f; exact f
end
section
open L2H
theorem Ex.ofKp {P : Addr → Prop} {H H' : Hp} {as : List Addr} {μ : Mu} (h : Kp H H') : Ex P H as μ H' as μ where
  zp := fun _ z => z.elim
  pre := List.prefix_refl as
  dom := h.dom
  keep := fun a o e nt _ _ => h.keep a o e nt
  tab := h.tab
  old := fun n e _ z => ⟨e, z⟩
  new := fun n p hn e => by
    have := (List.getElem?_eq_some_iff.mp e).1
    omega
theorem Wd.ofKp {P : Addr → Prop} {H H' : Hp} {as : List Addr} {μ : Mu} (w : Wd P H as μ) (h : Kp H H') : Wd P H' as μ where
  len := w.len
  obj := fun n e q => by
    obtain ⟨p, h1, h2, h3⟩ := w.obj n e q
    refine ⟨p, h1, h2, ?_⟩
    cases e with
    | lst xs =>
      obtain ⟨vs, e1, t⟩ := h3
      exact ⟨vs, h.keep _ _ e1 (nt_lst _), t.to' (fun a o e nt _ => h.keep a o e nt) fun a z => .inl z⟩
    | hds ns =>
      obtain ⟨ps, e1, t⟩ := h3
      exact ⟨ps, h.keep _ _ e1 (nt_lst _), t⟩
  pt := fun a z => ExZ.dom (Ex.ofKp (P := P) (as := as) (μ := μ) h) a (w.pt a z)
  inj := w.inj
/-- a list just made behind what is kept -/
theorem fr_ofKp {K : PySem.W.Frag} {P : Addr → Prop} {H H1 H2 : Hp} {as as1 : List Addr} {μ μ1 : Mu} {L : Addr} {vs : List V} {ds : List D} (x : Ex P H as μ H1 as1 μ1) (w : Wd P H1 as1 μ1) (k : Kp H1 H2) (h0 : H1 L = none) (h1 : H2 L = some (.lst vs)) (t : ∀ M, DmAll M H2 vs ds) : VlOk P H2 as1 μ1 K H (.ref L) (.fr ds) := by
  refine ⟨L, vs, rfl, ?_, fun z => w.pt L z h0, h1, ?_, t _, fun n xs q => ?_⟩
  · cases e : H L with
    | none => rfl
    | some o => exact absurd h0 (x.dom L (by rw [e]; simp))
  · rintro (z | ⟨n, e, z1, z2⟩)
    · exact w.pt L z h0
    · obtain ⟨p, e1, _, e3⟩ := w.obj n e z2
      rw [z1] at e1
      cases e1
      cases e with
      | lst xs =>
        obtain ⟨ws, e4, _⟩ := e3
        rw [h0] at e4
        cases e4
      | hds ns =>
        obtain ⟨ps, e4, _⟩ := e3
        rw [h0] at e4
        cases e4
  · obtain ⟨p, e1, _, ws, e4, e5⟩ := w.obj n _ q
    exact ⟨p, ws, e1, k.keep _ _ e4 (nt_lst _), e5.to' (fun a o e nt _ => k.keep a o e nt) fun a z => z.elim .inl fun z => .inr (by rw [z]; exact h0)⟩
/-- where a statement stands -/
structure Stm (X : Cx) (c : MC) : Prop where
  tr : ("TurnError" : Str) ∈ c.xs → TryTop X.K X.mg c.xs
  st : X.stack = X.env :: X.outer
  fr : X.env.frame = some X.env.locals
/-- .. where the suite says a word -/
theorem s_tryA {X : Cx} {c : MC} {W : WX} {γ : Str → Option D} {R : Str → Option (List Vl → Mu → Rs Vl)} {k : Nat} (co : Co X c W γ R k) (F : Nat) (sm : Stm X c) {cs : List Str} {i j : Nat} {b : S} {body : List Stmt} {n : Str} {e : Expr} {px pr pe pos : Pos}
    (hb : ∀ (W' : WX) (pn : List (Addr × Obj)) (xe : Value → Shared → Prop), Co (X.tr pn xe) c W' γ R k → ∀ l, matSs c b l = true → PSs (X.tr pn xe) l (rS X W' γ R F b)) (b2 : matSs c b body = true) (b3 : (cs.all fun y => c.xs.contains y) = true) (b4 : c.xs.contains "TurnError" = true) (b5 : glB c "TurnError" = true) (b6 : c.N[i]? = some n) (hij : i = j)
    (b7 : (fmA c.xs && (c.look n == some .local) && sufM c i n e) = true) : PS X (.Try body [.ExceptHandler (some (.Name "TurnError" px)) (some n) [.Return (some e) pr] pe] [] [] pos) (rS X W γ R F (.tryB cs i j b)) := by
  simp only [Bool.and_eq_true] at b7
  obtain ⟨⟨fA, b7⟩, b9⟩ := b7
  have T := sm.tr (by simpa using b4)
  obtain ⟨TT, t1, t2⟩ := T.trn
  have hN : X.N[i]? = some n := by rw [← co.N]; exact b6
  have hk : X.env.kindOf n = some .local := by
    have z : c.look n = some .local := by simpa using b7
    unfold MC.look at z
    rw [co.sc] at z
    exact z
  let ts : Addr → Value → Option Addr → TS := fun a cls d D σ H => ∃ y D', cls = .ref D' ∧ d = none ∧ y ∈ c.xs ∧ y ∈ names8 ∧ X.mg y = some (.ref D') ∧ (∃ σ0 : L2.St, σ = σ0.set i (some (.ref a))) ∧ ∀ H', Kp H H' → D.rt (.str (marks8.getD (names8.idxOf y) "")) H'
  refine (ps_tryC (tb := fun W' => rS X W' γ R F b) (ts := ts) sm.st sm.fr co.nd hN (.inr hk) ⟨(co.gl b5).1, (co.gl b5).2, .inl t1⟩ co.tk
    (fun W' pn xe tk po => hb W' pn xe { co with tk := tk, po := po } body b2) (fun a oe cls d pn z hf => ⟨fun pins s σ H D I q => ?_⟩)).imp fun D σ H ⟨ρ, μ, P, as, w, ro, f⟩ => ?_
  · obtain ⟨y, D', rfl, rfl, y1, y2, y3, ⟨σ0, rfl⟩, q⟩ := q
    obtain ⟨vs, hv⟩ := hf
    have hot : Hot1 (X.suite a ((a, oe) :: pn)).A (a, oe) := ⟨rfl, vs, hv, z.2.2 vs hv⟩
    obtain ⟨f, fd, o1, o2, o3, o4⟩ := mrkP (P := X.prog) (w := X.w) (base := X.base) (a := a) T fA y1 y2 y3 z.zc ⟨vs, hv⟩ 0
    have room : RoomH 1 (X.suite a ((a, oe) :: pn)).A := ⟨by have := co.hr.dp; show X.A.depth + _ + 5 < _; omega, by have := co.hr.un; show X.A.units + _ + 200 < _; omega⟩
    have se := sufM_ok (X := X.suite a ((a, oe) :: pn)) (c := c) ⟨co.N, co.sc, co.fn⟩ hot (List.mem_cons_self ..) o4 room o1 o2 o3 b9
    have ln : (σ0.set i (some (V.ref a))).length = X.N.length := I.len
    refine (pss_cons (ps_ret se) pss_nil).run pins s _ H D I ⟨?_, q⟩
    rw [List.getElem?_set_self]
    rw [List.length_set] at ln
    rw [ln]
    exact (List.getElem?_eq_some_iff.mp hN).1
  · simp only [exec, if_pos hij] at f
    refine ⟨ρ, μ, P, as, w, ro, ?_⟩
    cases hB : exec R γ F b ρ μ with
    | nx ρ2 μ2 => rw [hB] at f; exact f
    | ct ρ2 μ2 => rw [hB] at f; exact f
    | bk ρ2 μ2 => rw [hB] at f; exact f
    | rt y μ2 => rw [hB] at f; exact f
    | bad => rw [hB] at f; exact f
    | exc y μ2 =>
      rw [hB] at f
      simp only [catchM] at f
      split at f
      · rename_i hc
        rw [Bool.and_eq_true] at hc
        have y1 : y ∈ c.xs := by
          have := List.all_eq_true.mp b3 y (by simpa using hc.1)
          simpa using this
        have y2 : y ∈ names8 := by simpa using hc.2
        intro σ1 H1 as1 C ex wd hC
        refine ⟨true, (t2 y y1 y2 C hC).2, fun _ a na => ⟨y, C, rfl, rfl, y1, y2, hC, ⟨σ1, rfl⟩, fun H2 kp => ?_⟩, fun z => by cases z⟩
        exact f (.str _) H2 as1 (ex.trans (Ex.ofKp kp)) (wd.ofKp kp) (.str _)
      · exact f.elim
theorem s_tryB {X : Cx} {c : MC} {W : WX} {γ : Str → Option D} {R : Str → Option (List Vl → Mu → Rs Vl)} {k : Nat} (co : Co X c W γ R k) (F : Nat) (sm : Stm X c) {cs : List Str} {i j : Nat} {b : S} {st : Stmt}
    (hb : ∀ (W' : WX) (pn : List (Addr × Obj)) (xe : Value → Shared → Prop), Co (X.tr pn xe) c W' γ R k → ∀ l, matSs c b l = true → PSs (X.tr pn xe) l (rS X W' γ R F b)) (h : matS1 c (.tryB cs i j b) st = true) : PS X st (rS X W γ R F (.tryB cs i j b)) := by
  simp only [matS1] at h
  split at h
  · rename_i body x px n e pr pe pos
    simp only [Bool.and_eq_true, decide_eq_true_eq] at h
    obtain ⟨⟨⟨⟨⟨⟨b1, b2⟩, b3⟩, b4⟩, b5⟩, b6⟩, b7⟩ := h
    subst b1
    by_cases hij : i = j
    · exact s_tryA co F sm hb b2 b3 b4 b5 b6 hij (by rw [if_pos hij] at b7; exact b7)
    rw [if_neg hij] at b7
    simp only [Bool.and_eq_true, Bool.not_eq_true'] at b7
    obtain ⟨⟨fB, b7, b8⟩, b9⟩ := b7
    have T := sm.tr (by simpa using b4)
    obtain ⟨TT, t1, t2⟩ := T.trn
    have hN : X.N[i]? = some n := by rw [← co.N]; exact b6
    have hk : X.env.kindOf n = some .cell := by
      have z : c.look n = some .cell := by simpa using b7
      unfold MC.look at z
      rw [co.sc] at z
      exact z
    have hj : ∀ (σ : L2.St), σ.length = X.N.length → j < σ.length := fun σ e => by
      unfold sufB at b9
      split at b9
      · simp only [Bool.and_eq_true, decide_eq_true_eq] at b9
        have z := b9.1.1.1.1.2
        unfold locB at z
        simp only [Bool.and_eq_true, decide_eq_true_eq] at z
        have z1 : c.N[j]? = some _ := z.1
        rw [co.N] at z1
        rw [e]
        exact (List.getElem?_eq_some_iff.mp z1).1
      · cases b9
    let ts : Addr → Value → Option Addr → TS := fun a cls d D σ H => ∃ y D', cls = .ref D' ∧ d = none ∧ y ∈ c.xs ∧ y ∈ names8 ∧ X.mg y = some (.ref D') ∧ (∃ σ0 : L2.St, σ = σ0.set i (some (.ref a))) ∧ ∀ L H', H L = none → Kp H H' → H' L = some (.lst [.int ((names8.idxOf y : Nat) : Int)]) → D.rt (.ref L) H'
    refine (ps_tryC (tb := fun W' => rS X W' γ R F b) (ts := ts) sm.st sm.fr co.nd hN (.inl ⟨hk, by rw [← co.fn]; exact b8⟩) ⟨(co.gl b5).1, (co.gl b5).2, .inl t1⟩ co.tk
      (fun W' pn xe tk po => hb W' pn xe { co with tk := tk, po := po } body b2) (fun a oe cls d pn z hf => ⟨fun pins s σ H D I q => ?_⟩)).imp fun D σ H ⟨ρ, μ, P, as, w, ro, f⟩ => ?_
    · obtain ⟨y, D', rfl, rfl, y1, y2, y3, ⟨σ0, rfl⟩, q⟩ := q
      obtain ⟨vs, hv⟩ := hf
      have hot : Hot1 (X.suite a ((a, oe) :: pn)).A (a, oe) := ⟨rfl, vs, hv, z.2.2 vs hv⟩
      obtain ⟨f, fd, o1, o2, o3, o4⟩ := onlP (P := X.prog) (w := X.w) (base := X.base) (a := a) T fB y1 y2 y3 z.zc ⟨vs, hv⟩
      have room : RoomH 2 (X.suite a ((a, oe) :: pn)).A := ⟨by have := co.hr.dp; show X.A.depth + _ + 5 < _; omega, by have := co.hr.un; show X.A.units + _ + 200 < _; omega⟩
      have se := suf_ok (X := X.suite a ((a, oe) :: pn)) (c := c) ⟨co.N, co.sc, co.fn⟩ co.nd hot (List.mem_cons_self ..) o4 room o1 o2 o3 T.rng (hot_names y y2).2 b9
      have ln : (σ0.set i (some (V.ref a))).length = X.N.length := I.len
      refine (pss_cons (ps_ret se) pss_nil).run pins s _ H D I ⟨?_, hj _ ln, q⟩
      rw [List.getElem?_set_self]
      rw [List.length_set] at ln
      rw [ln]
      exact (List.getElem?_eq_some_iff.mp hN).1
    · simp only [exec, if_neg hij] at f
      refine ⟨ρ, μ, P, as, w, ro, ?_⟩
      cases hB : exec R γ F b ρ μ with
      | nx ρ2 μ2 => rw [hB] at f; exact f
      | ct ρ2 μ2 => rw [hB] at f; exact f
      | bk ρ2 μ2 => rw [hB] at f; exact f
      | rt y μ2 => rw [hB] at f; exact f
      | bad => rw [hB] at f; exact f
      | exc y μ2 =>
        rw [hB] at f
        simp only [catch8] at f
        split at f
        · rename_i hc
          rw [Bool.and_eq_true] at hc
          have y1 : y ∈ c.xs := by
            have := List.all_eq_true.mp b3 y (by simpa using hc.1)
            simpa using this
          have y2 : y ∈ names8 := by simpa using hc.2
          intro σ1 H1 as1 C ex wd hC
          refine ⟨true, (t2 y y1 y2 C hC).2, fun _ a na => ⟨y, C, rfl, rfl, y1, y2, hC, ⟨σ1, rfl⟩, fun L H2 l0 kp l1 => ?_⟩, fun z => by cases z⟩
          exact f (.ref L) H2 as1 (ex.trans (Ex.ofKp kp)) (wd.ofKp kp) (fr_ofKp ex wd kp l0 l1 fun M => .cons (.int _) .nil)
        · exact f.elim
  · cases h
/-- all statements, all blocks -/
theorem sndS {c : MC} {γ : Str → Option D} {R : Str → Option (List Vl → Mu → Rs Vl)} {k : Nat} (F : Nat) (a : S) : ∀ {X : Cx} {W : WX} (co : Co X c W γ R k) (sm : Stm X c), (∀ st, matS1 c a st = true → PS X st (rS X W γ R F a)) ∧ (∀ l, matSs c a l = true → PSs X l (rS X W γ R F a)) := by
  induction a with
  | nil => exact fun co sm => ⟨fun st h => by simp [matS1] at h, fun l h => ss_nil co F h⟩
  | cons a r ia ir => exact fun co sm => ⟨fun st h => by simp [matS1] at h, fun l h => ss_cons co F (ia co sm).1 (ir co sm).2 h⟩
  | asg m i e => exact fun co sm => ⟨fun st h => s_asg co F (by simpa only [matS1] using h), fun l h => by simp [matSs] at h⟩
  | unp ts e => exact fun co sm => ⟨fun st h => s_unp co F (by simpa only [matS1] using h), fun l h => by simp [matSs] at h⟩
  | unpL ts e => exact fun co sm => ⟨fun st h => s_unpL co F (by simpa only [matS1] using h), fun l h => by simp [matSs] at h⟩
  | six o i e => exact fun co sm => ⟨fun st h => s_six co F (by simpa only [matS1] using h), fun l h => by simp [matSs] at h⟩
  | exp e => exact fun co sm => ⟨fun st h => s_exp co F (by simpa only [matS1] using h), fun l h => by simp [matSs] at h⟩
  | ret e => exact fun co sm => ⟨fun st h => s_ret co F (by simpa only [matS1] using h), fun l h => by simp [matSs] at h⟩
  | retN => exact fun co sm => ⟨fun st h => s_retN co F (by simpa only [matS1] using h), fun l h => by simp [matSs] at h⟩
  | ite t a b ia ib => exact fun co sm => ⟨fun st h => s_ite co F (ia co sm).2 (ib co sm).2 h, fun l h => by simp [matSs] at h⟩
  | loop ts it b ib => exact fun co sm => ⟨fun st h => s_loop co F (ib co sm).2 h, fun l h => by simp [matSs] at h⟩
  | whl t b ib => exact fun co sm => ⟨fun st h => s_whl co F (ib co sm).2 h, fun l h => by simp [matSs] at h⟩
  | raise x e => exact fun co sm => ⟨fun st h => s_raise co F (by simpa only [matS1] using h), fun l h => by simp [matSs] at h⟩
  | swp o1 i1 o2 i2 e => exact fun co sm => ⟨fun st h => s_swp co F (by simpa only [matS1] using h), fun l h => by simp [matSs] at h⟩
  | gh i a ia => exact fun co sm => ⟨fun st h => s_gh co F (ia co sm).1 h, fun l h => by simp [matSs] at h⟩
  | dead => exact fun co sm => ⟨fun st h => ⟨fun pins s σ H D I q => by obtain ⟨ρ, μ, P, as, w, ro, f⟩ := q; exact f.elim⟩, fun l h => by simp [matSs] at h⟩
  | pass => exact fun co sm => ⟨fun st h => s_pass co F (by simpa only [matS1] using h), fun l h => by simp [matSs] at h⟩
  | brk => exact fun co sm => ⟨fun st h => s_brk co F (by simpa only [matS1] using h), fun l h => by simp [matSs] at h⟩
  | cont => exact fun co sm => ⟨fun st h => s_cont co F (by simpa only [matS1] using h), fun l h => by simp [matSs] at h⟩
  | tryB cs i j b ib => exact fun co sm => ⟨fun st h => s_tryB co F sm (fun W' pn xe co' l hl => (ib co' ⟨sm.tr, sm.st, sm.fr⟩).2 l hl) h, fun l h => by simp [matSs] at h⟩
end
end TL
/-! T17: a def by its body -/
namespace TL
open PySem PySem.Spec PyProof.Rows L2
set_option autoImplicit false
theorem _root_.PySem.Paired.len {α β : Type} {R : α → β → Prop} {l : List α} {m : List β} (h : Paired R l m) : l.length = m.length := by
  induction h with
  | nil => rfl
  | cons _ _ ih => simp [ih]
section
variable {K : PySem.W.Frag} {P : Addr → Prop} {H H1 : Hp} {as as1 : List Addr} {μ μ1 : Mu}
theorem take_get {α : Type} {l : List α} {b n : Nat} {x : α} (h : (l.take b)[n]? = some x) : n < b ∧ l[n]? = some x := by
  rw [List.getElem?_take] at h
  split at h
  · exact ⟨by assumption, h⟩
  · cases h
theorem get_take {α : Type} {l : List α} {b n : Nat} {x : α} (hn : n < b) (h : l[n]? = some x) : (l.take b)[n]? = some x := by
  rw [List.getElem?_take, if_pos hn]; exact h
theorem mf_cut {b : Nat} {a : Addr} (h : Mf P (as.take b) (μ.take b) a) : Mf P as μ a := by
  rcases h with h | ⟨n, e, h1, h2⟩
  · exact .inl h
  · exact .inr ⟨n, e, (take_get h1).2, (take_get h2).2⟩
theorem Dm.cut {b : Nat} {v : V} {d : D} (h : Dm (Mf P as μ) H v d) : Dm (Mf P (as.take b) (μ.take b)) H v d := h.to (fun _ _ e _ => e) fun a z => .inl (mf_cut z)
theorem DmAll.cut {b : Nat} {v : List V} {d : List D} (h : DmAll (Mf P as μ) H v d) : DmAll (Mf P (as.take b) (μ.take b)) H v d := h.to (fun _ _ e _ => e) fun a z => .inl (mf_cut z)
theorem Wd.cut (w : Wd P H as μ) (b : Nat) : Wd P H (as.take b) (μ.take b) where
  len := by rw [List.length_take, List.length_take, w.len]
  obj := fun n e he => by
    obtain ⟨hn, he⟩ := take_get he
    obtain ⟨p, h1, h2, h3⟩ := w.obj n e he
    refine ⟨p, get_take hn h1, h2, ?_⟩
    cases e with
    | lst xs =>
      obtain ⟨vs, e1, t⟩ := h3
      exact ⟨vs, e1, t.cut⟩
    | hds ns =>
      obtain ⟨ps, e1, t⟩ := h3
      refine ⟨ps, e1, ?_, fun n0 e' z1 z2 m hm => t.2 n0 e' (take_get z1).2 (take_get z2).2 m hm⟩
      rw [← t.1]
      refine List.map_congr_left fun m hm => ?_
      have := t.2 n _ h1 he m hm
      rw [List.getElem?_take, if_pos (by omega)]
  pt := w.pt
  inj := fun n m p e f h1 h2 h3 h4 => w.inj n m p e f (take_get h1).2 (take_get h2).2 (take_get h3).2 (take_get h4).2
theorem Ex.cut (x : Ex P H as μ H1 as1 μ1) : Ex P H as μ H1 (as1.take as.length) (μ1.take as.length) where
  zp := x.zp
  pre := by
    obtain ⟨t, rfl⟩ := x.pre
    rw [List.take_left]
    exact List.prefix_refl _
  dom := x.dom
  keep := x.keep
  tab := x.tab
  old := fun n e hn he => x.old n e hn (take_get he).2
  new := fun n p hn h => by
    have := (take_get h).1
    omega
theorem lsts_ok {b n : Nat} {p : Addr} {e0 : Ent} (w : Wd P H as μ) (hp : as[n]? = some p) (hx : μ[n]? = some (some e0)) : ∀ (ns : List Nat) (ps : List Addr) {xss : List D}, (ns.map fun n => as[n]?) = ps.map some → (∀ m ∈ ns, m < n) → lstsOf μ b ns = some xss →
    DmAll (fun a => Mf P (as.take b) (μ.take b) a ∨ a = p) H (ps.map V.ref) xss
  | [], ps, xss, h, _, hl => by
    cases ps with
    | nil => simp only [lstsOf] at hl; cases hl; exact .nil
    | cons _ _ => simp at h
  | m :: ns, ps, xss, h, hlt, hl => by
    cases ps with
    | nil => simp at h
    | cons q ps =>
      simp only [List.map_cons, List.cons.injEq] at h
      obtain ⟨h1, h2⟩ := h
      simp only [lstsOf] at hl
      split at hl
      · cases hl
      · rename_i hb
        split at hl
        · rename_i xs hm
          rw [Option.map_eq_some_iff] at hl
          obtain ⟨yss, h3, rfl⟩ := hl
          refine .cons ?_ (lsts_ok w hp hx ns ps h2 (fun k hk => hlt k (List.mem_cons_of_mem _ hk)) h3)
          obtain ⟨vs, g1, g2⟩ := w.at h1 hm
          have mn := hlt m (List.mem_cons_self ..)
          refine .lst g1 ?_ (g2.to (fun _ _ e _ => e) fun a z => .inl ?_)
          · rintro ((z | ⟨k, e, z1, z2⟩) | z)
            · obtain ⟨q', k1, k2, _⟩ := w.obj m _ hm
              rw [h1] at k1
              cases k1
              exact k2 z
            · have := w.inj k m q e _ (take_get z1).2 h1 (take_get z2).2 hm
              have := (take_get z1).1
              omega
            · subst z
              have := w.inj m n q _ _ h1 hp hm hx
              omega
          · rcases z with z | rfl
            · exact mf_cut z
            · exact .inr ⟨n, _, hp, hx⟩
        · cases hl
/-- the outcome of a body, at the call -/
theorem fin_of {mg : Str → Option Value} {Ew : XK} {Q : VK} {r : RS} (w : Wd P H as μ)
    (h : Fin mg (fun cls d _ H' => Ew cls d H') P [] H as μ (finR μ.length r) fun x μ' H' as' => ∀ v, VlOk P H' as' μ' K H v x → Q v H') :
    FinS mg (fun cls d _ H' => Ew cls d H') K { nx := fun _ H' => Q .non H', rt := Q } P H as μ r := by
  rw [← w.len] at h
  cases r with
  | nx ρ' μ' => exact fun σ' H' as' e w' ro => h H' _ e.cut (w'.cut _) _ Dm.non
  | exc c μ' => exact fun σ' H' as' C e w' g => h H' _ C e.cut (w'.cut _) g
  | bk _ _ => exact False.elim h
  | ct _ _ => exact False.elim h
  | bad => exact h
  | rt x μ' =>
    intro v H' as' e w' vo
    cases x with
    | dt d => exact h H' _ e.cut (w'.cut _) v (Dm.cut vo)
    | hd n =>
      simp only [finR] at h
      obtain ⟨p, hp, rfl⟩ := vo
      by_cases hn : n < as.length
      · rw [if_pos hn] at h
        exact h H' _ e.cut (w'.cut _) _ ⟨p, get_take hn hp, rfl⟩
      · rw [if_neg hn] at h
        split at h
        · rename_i xs hx
          obtain ⟨vs, hl, t⟩ := w'.at hp hx
          obtain ⟨n1, n2⟩ := e.new n p (by omega) hp
          have up : ∀ a, (Mf P (as'.take as.length) (μ'.take as.length) a ∨ a = p) → Mf P as' μ' a := by
            rintro a (z | rfl)
            · exact mf_cut z
            · exact .inr ⟨n, _, hp, hx⟩
          refine h H' _ e.cut (w'.cut _) _ ⟨p, vs, rfl, n1, n2, hl, ?_, t.to (fun _ _ e _ => e) fun a z => .inl (up a z), fun m ys hm => ?_⟩
          · rintro (z | ⟨m, f, z1, z2⟩)
            · exact n2 z
            · have hm := (take_get z1).1
              have := w'.inj m n p f _ (take_get z1).2 hp (take_get z2).2 hx
              omega
          · obtain ⟨hm1, hm⟩ := take_get hm
            obtain ⟨q, g1, g2, ws, g3, g4⟩ := w'.obj m _ hm
            exact ⟨q, ws, get_take hm1 g1, g3, g4.to (fun _ _ e _ => e) fun a z => .inl (up a z)⟩
        · rename_i ns hx
          obtain ⟨n1, n2⟩ := e.new n p (by omega) hp
          cases hxs : lstsOf μ' as.length ns with
          | none => rw [hxs] at h; exact h.elim
          | some xss =>
          rw [hxs] at h
          have up : ∀ a, (Mf P (as'.take as.length) (μ'.take as.length) a ∨ a = p) → Mf P as' μ' a := by
            rintro a (z | rfl)
            · exact mf_cut z
            · exact .inr ⟨n, _, hp, hx⟩
          obtain ⟨p', g1, g2, ps, g3, g4⟩ := w'.obj n _ hx
          rw [hp] at g1
          cases g1
          have all := lsts_ok w' hp hx (b := as.length) ns ps g4.1 (g4.2 n _ hp hx) hxs
          refine h H' _ e.cut (w'.cut _) _ ⟨p, _, rfl, n1, n2, g3, ?_, all, fun m ys hm => ?_⟩
          · rintro (z | ⟨m, f, z1, z2⟩)
            · exact n2 z
            · have hm := (take_get z1).1
              have := w'.inj m n p f _ (take_get z1).2 hp (take_get z2).2 hx
              omega
          · obtain ⟨hm1, hm⟩ := take_get hm
            obtain ⟨q, g1, g2, ws, g3, g4⟩ := w'.obj m _ hm
            exact ⟨q, ws, get_take hm1 g1, g3, g4.to (fun _ _ e _ => e) fun a z => .inl (up a z)⟩
        · exact h.elim
    | fr xs =>
      obtain ⟨p, vs, rfl, h0, hP, hp, hm, t, sp⟩ := vo
      have up : ∀ a, (Mf P (as'.take as.length) (μ'.take as.length) a ∨ a = p) → (Mf P as' μ' a ∨ a = p) := by
        rintro a (z | rfl)
        · exact .inl (mf_cut z)
        · exact .inr rfl
      refine h H' _ e.cut (w'.cut _) _ ⟨p, vs, rfl, h0, hP, hp, fun z => hm (mf_cut z), t.to (fun _ _ e _ => e) fun a z => .inl (up a z), fun m ys hm => ?_⟩
      obtain ⟨hm1, hm⟩ := take_get hm
      obtain ⟨q, ws, g1, g3, g4⟩ := sp m ys hm
      exact ⟨q, ws, get_take hm1 g1, g3, g4.to (fun _ _ e _ => e) fun a z => .inl (up a z)⟩
    | scr ns =>
      refine h H' _ e.cut (w'.cut _) v ?_
      obtain ⟨a, ea, z⟩ := vo
      refine ⟨a, ea, ?_⟩
      rcases z with ⟨o, z1, z2⟩ | z
      · exact .inl ⟨o, z1, fun q => z2 (mf_cut q)⟩
      · exact .inr z
theorem ro_start {fn : Fn} {vs : List V} {xs : List Vl} (tb : TbOk K H) (h : Paired (SlOk K P H as μ) vs xs) : RoOk K P H as μ (L2.start fn.N vs) (fn.start xs) := by
  have hl : vs.length = xs.length := h.len
  unfold L2.start Fn.start
  refine ⟨by simp [hl], fun i x e => ?_, tb⟩
  by_cases hi : i < xs.length
  · rw [List.getElem?_append_left (by simpa using hi), List.getElem?_map] at e
    cases q : xs[i]? with
    | none => rw [q] at e; cases e
    | some y =>
      rw [q] at e
      cases e
      have : ∃ v, vs[i]? = some v ∧ SlOk K P H as μ v x := by
        clear hl hi
        induction h generalizing i with
        | nil => cases q
        | cons h1 h2 ih =>
          cases i with
          | zero => cases q; exact ⟨_, rfl, h1⟩
          | succ i => exact ih i q
      obtain ⟨v, hv, s⟩ := this
      refine ⟨v, ?_, s⟩
      rw [List.getElem?_append_left (by rw [List.length_map]; exact (List.getElem?_eq_some_iff.mp hv).1), List.getElem?_map, hv]
      rfl
  · rw [List.getElem?_append_right (by simpa using hi), List.getElem?_replicate] at e
    split at e <;> cases e
end
/-- a def of the text, by its body, where no repr is under way -/
theorem fnG_of {CX : CXT} {P : Program} {w : World} {K : PySem.W.Frag} {mg : Str → Option Value} {base : Heap} {k : Nat} {f : Addr} {name qual : Str} {params : Arguments} {body : List Stmt} {scope : Scope} {dV kV doc pm cdv ct oc : Value} {an od : Option Addr}
    {osl : Array (Option Value)} {N ps : List Str} {sp : Sp} (lk : K.lookup f = some ⟨oc, od, .func (PySem.W.fnOf name qual params body scope dV kV doc pm an cdv ct), osl⟩) (hcd : PySem.W.codeIn K cdv qual = true) (S : FnScope N ps scope)
    (len : ∀ vs H Q E, sp vs H Q E → vs.length = ps.length)
    (hbody : ∀ (A : Around) (outer : List Env) (s : Shared) (H : Hp) (vs : List V) (Q : VK) (E : XK), Room (k + 2) (A.deeper (envOfC qual scope s.heap.objs.size f cdv)) → A.guards = some [] → sp vs H Q E →
      ∃ t, PSs (cxOf CX P w K mg base N qual scope f cdv A outer s H E) body t ∧ t { nx := fun _ H' => Q .non H', rt := Q } (L2.start N vs) H) :
    FnG P w K mg base CX (k + 1) f (PySem.W.fnOf name qual params body scope dV kV doc pm an cdv ct) ps sp := by
  refine ⟨len, fun A outer s H args us vs Q E hr hgd e0 hb r hsp => ?_⟩
  have hl := len _ _ _ _ hsp
  have KX : K.In s.heap := e0.mod.kin.keeps fun b o e => (e0.bs b o e).1
  have lim : s.heap.NoLimit := e0.mod.nolimit.keeps fun b o e => (e0.bs b o e).1
  have hkind : ∀ y ∈ ps.zip us, scope.names.lookup y.1 = some .local ∨ (scope.names.lookup y.1 = some .cell ∧ ((cellsFrom (s.heap.objs.size + 1) scope.names []).lookup y.1).isSome = true) := fun ⟨n, v⟩ hy => by
    rcases S.par n (List.of_mem_zip hy).1 with q | q
    · exact .inl q
    · exact .inr ⟨q, PySem.W.cellsFrom_some _ _ _ (.inl q)⟩
  refine codeAny_call_function hr.depth (KX _ _ lk) rfl S.co S.gen rfl (PySem.W.codeRec_of KX hcd) (hb _ _ _ _ ?_)
  refine wpAny_newFunctionEnv_cells S.kind hkind fun env he s1 x => ?_
  subst he
  refine ⟨lim.keeps x.toInCall.keep, codeAny_func ?_⟩
  obtain ⟨t, ht, hq⟩ := hbody A outer s H vs Q E (hr.deeper _) hgd hsp
  have I : L2.Inv (cxOf CX P w K mg base N qual scope f cdv A outer s H E) [] (L2.start N vs) H s1 := inv_start S hr.hd e0 hl r x
  refine wpAny_mono (ht.run [] s1 (L2.start N vs) H _ I hq) (fun fl s' hs => ?_) fun e s' hs => hs
  have fin : ∀ {σ' : L2.St} {H' : Hp} {v : V} {u : Value}, L2.Inv (cxOf CX P w K mg base N qual scope f cdv A outer s H E) [] σ' H' s' → RelV v u → Q v H' → CE outer P w H s Q u s' :=
    fun {σ' H' v u} J rv q => ⟨v, H', J.os, J.bare, J.base, J.hok, rv, q⟩
  cases fl with
  | ret u =>
    obtain ⟨v, σ', H', J, rv, q⟩ := hs
    exact fin J rv q
  | next =>
    obtain ⟨σ', H', J, q⟩ := hs
    exact fin (v := V.non) (u := Value.none) J rfl q
  | brk =>
    obtain ⟨_, _, _, q⟩ := hs
    exact False.elim q
  | cont =>
    obtain ⟨_, _, _, q⟩ := hs
    exact False.elim q
/-- what the module's top has left -/
structure Top (K : PySem.W.Frag) (mg : Str → Option Value) (γ : Str → Option D) (Δ : Str → Option Fn) (xs : List Str) : Prop where
  gam : ∀ x d, γ x = some d → ∃ u v, mg x = some u ∧ RelV v u ∧ ∀ M H, Dm M H v d
  blt : ∀ x ∈ bltNames, mg x = none
  exb : ∀ x ∈ xs, ∃ C B newId initId bmB, ExcBaseFacts B newId initId bmB ∧ PySem.W.excIn K C bmB newId = true ∧ mg x = some (.ref C) ∧ PySem.W.keepIn K (.ref C) = true ∧ PySem.W.subIn K (.ref C) (.type "BaseException") = some true ∧ PySem.W.typeIn K (.ref C) = some (.type "type")
  tr : ("TurnError" : Str) ∈ xs → TryTop K mg xs
  tab : Δ lamF ≠ none → ∃ cc PP, PySem.W.tabIn K lamF = some (cc, PP)
  defs : ∀ f fn, Δ f = some fn → ∃ st a fd, mg f = some (.ref a) ∧ Fun K f f st a fd ∧ Binds K fd fn.ps [] ∧ FnScope fn.N fn.ps (defScope st) ∧ matFn f xs fn st = true
/-- a def does what run tells -/
def FnsOk (P : Program) (w : World) (K : PySem.W.Frag) (mg : Str → Option Value) (base : Heap) (n : Nat) (R : Str → Option (List Vl → Mu → Rs Vl)) : Prop := ∀ (f : Str) (g : List Vl → Mu → Rs Vl), R f = some g →
    ∃ a fd ps, mg f = some (.ref a) ∧ PySem.W.keepIn K (.ref a) = true ∧ Binds K fd ps [] ∧ (∀ xs μ, g xs μ ≠ .bad → xs.length = ps.length) ∧ FnG P w K mg base (L2N.CX P w) n a fd ps (spR mg K g ps.length)
def runFn (R : Str → Option (List Vl → Mu → Rs Vl)) (γ : Str → Option D) (F : Nat) (fn : Fn) : List Vl → Mu → Rs Vl := fun xs μ => if xs.length = fn.ps.length then finR μ.length (exec R γ F fn.body (fn.start xs) μ) else .bad
theorem fn_step {P : Program} {w : World} {K : PySem.W.Frag} {mg : Str → Option Value} {base : Heap} {γ : Str → Option D} {Δ : Str → Option Fn} {xs : List Str} (T : Top K mg γ Δ xs) (F : Nat) {n : Nat} {R : Str → Option (List Vl → Mu → Rs Vl)} (ih : FnsOk P w K mg base n R)
    {f : Str} {fn : Fn} {st : Stmt} {a : Addr} {fd : FuncData} (Fu : Fun K f f st a fd) (sc : FnScope fn.N fn.ps (defScope st)) (mt : matFn f xs fn st = true) (kb : K.In base) (gb : base.Ns mainGlobals mg) (hB : ∀ cc PP, PySem.W.tabIn K lamF = some (cc, PP) → LamX.TabB base mg cc PP) (hm : mg f = some (.ref a)) (ht : f = lamF → ∃ cc PP, PySem.W.tabIn K lamF = some (cc, PP)) :
    FnG P w K mg base (L2N.CX P w) (n + 1) a fd fn.ps (spR mg K (runFn R γ F fn) fn.ps.length) := by
  obtain ⟨oc, od, kV, doc, pm, an, cdv, ct, osl, rfl, lk, hcd⟩ := Fu.ex
  refine fnG_of lk hcd sc (fun vs H Q E h => h.1) fun A outer s H vs Q E hr hgd hsp => ?_
  have co : Co (cxOf (L2N.CX P w) P w K mg base fn.N f (defScope st) a cdv A outer s H E) ⟨fn.N, defScope st, fun _ => true, xs, decide (f = lamF)⟩ (fun cls d _ H' => E cls d H') γ R n :=
    { N := rfl, sc := rfl, fn := rfl, calm := rfl, nd := sc.nd
      tk := L2N.takes_of (X := cxOf (L2N.CX P w) P w K mg base fn.N f (defScope st) a cdv A outer s H E) (E₁ := fun e' s'' => L2N.CX P w outer H s E e' s'') rfl rfl rfl rfl
      po := passes_of (X := cxOf (L2N.CX P w) P w K mg base fn.N f (defScope st) a cdv A outer s H E) (K := fun e s'' => L2N.CX P w outer H s E e s'') (E₁ := fun e' s'' => L2N.CX P w outer H s E e' s'') rfl
      lm := fun hz => by
        have ef : f = lamF := of_decide_eq_true hz
        obtain ⟨cc, PP, ht⟩ := ht ef
        refine ⟨cc, PP, ?_, hB cc PP ht, ht, by rw [ef]; rfl⟩
        exact PySem.W.law_code (fd := PySem.W.fnOf f f (defArgs st) (defBody st) (defScope st) .none kV doc pm an cdv ct) kb gb (ef ▸ ht) hm (kb _ _ lk) rfl
      hr := hr, hg := hgd, gam := T.gam, blt := T.blt, exb := T.exb, fns := ih }
  refine ⟨_, (sndS F fn.body co ⟨T.tr, rfl, rfl⟩).2 _ mt, ?_⟩
  obtain ⟨hl, tb, P0, as, ys, μ, wd, pr, fi⟩ := hsp
  have hly : ys.length = fn.ps.length := by
    rw [← pr.len]; exact hl
  simp only [runFn, if_pos hly] at fi
  exact ⟨fn.start ys, μ, P0, as, wd, ro_start tb pr, fin_of wd fi⟩
theorem run_succ {Δ : Str → Option Fn} {γ : Str → Option D} {F n : Nat} {f : Str} {fn : Fn} (h : Δ f = some fn) : run Δ γ F (n + 1) f = some (runFn (run Δ γ F n) γ F fn) := by
  simp only [run, h]
  rfl
/-- each def does what run tells -/
theorem top_fns {P : Program} {w : World} {K : PySem.W.Frag} {mg : Str → Option Value} {base : Heap} {γ : Str → Option D} {Δ : Str → Option Fn} {xs : List Str} (T : Top K mg γ Δ xs) (F : Nat) (kb : K.In base) (gb : base.Ns mainGlobals mg) (hB : ∀ cc PP, PySem.W.tabIn K lamF = some (cc, PP) → LamX.TabB base mg cc PP) : ∀ n : Nat, FnsOk P w K mg base n (run Δ γ F n) := by
  intro n
  induction n with
  | zero => intro f g h; cases h
  | succ n ih =>
    intro f g h
    cases hf : Δ f with
    | none => simp [run, hf] at h
    | some fn =>
      rw [run_succ hf] at h
      cases h
      obtain ⟨st, a, fd, hm, Fu, hb, sc, mt⟩ := T.defs f fn hf
      refine ⟨a, fd, fn.ps, hm, Fu.kp, hb, fun xs μ hbad => ?_, fn_step T F ih Fu sc mt kb gb hB hm (fun e => T.tab (by rw [← e, hf]; simp))⟩
      by_cases hl : xs.length = fn.ps.length
      · exact hl
      · exact absurd (if_neg hl) hbad
end TL
/-! T18: the law's end (after the layer's law_call, walk_ofB; the promise asks that no repr is under way) -/
namespace TL
open PySem PySem.Spec PyProof.Rows L2
set_option autoImplicit false
/-- what may be tracked at the start: the tables, the script -/
def startH (K : PySem.W.Frag) (cs : List (Addr × Addr)) (a : Addr) (o : Obj) (ns : List Int) : Hp := fun b => if b ∈ cs.map (·.2) then some (.tbl #[]) else if b = a ∧ K.lookup a = none then some (.frz o (.lst (ns.map V.int))) else none
theorem law_callG {P : Program} {w : World} {K : PySem.W.Frag} {mg mb : Str → Option Value} {CX : CXT} {k : Nat} {fa a : Addr} {cs : List (Addr × Addr)} {fd : FuncData} {x : Str} {sp : Sp} {s₁ : Shared} {vs : List Value} {ns : List Int}
    (KX : K.In s₁.heap) (hns : s₁.heap.Ns mainGlobals mg) (hb : s₁.heap.Ns builtinsNs mb) (hbb : ∀ x : Str, x ≠ "__name__" → mb x = bootBuiltins x) (hlim : s₁.heap.NoLimit) (hg : s₁.gens = #[])
    (hT : ∀ p ∈ cs, PySem.W.CodeHd s₁.heap p.1 p.2 ∧ s₁.heap.get? p.2 = some (PySem.W.tabObj #[])) (nT : ∀ p ∈ cs, K.lookup p.2 = none)
    (hbm : ∃ (bm : Addr) (ob : Obj), mg "__builtins__" = some (.ref bm) ∧ bm ≠ builtinsNs ∧ s₁.heap.get? bm = some ob ∧ ob.cls = .type "module" ∧ ob.dict = some builtinsNs ∧ ob.data = .plain)
    (ha : s₁.heap.get? a = some { cls := .type "list", data := .seq vs.toArray }) (hi : IntsAre vs ns) (hl : ns.length ≤ sizeLine) (hr : Room (k + 2) callerA)
    (F : ∀ base : Heap, K.In base → base.Ns mainGlobals mg → (∀ p ∈ cs, LamX.TabB base mg p.1 p.2) → FnG P w K mg base CX k fa fd [x] sp) (hbind : BindsTo s₁ fd ⟨[.ref a], []⟩ [(x, .ref a)])
    (hsp : ∀ H : Hp, (∀ p ∈ cs, H p.2 = some (.tbl #[])) → (K.lookup a = none → ∃ o, H a = some (.frz o (.lst (ns.map V.int)))) → (∀ o, K.lookup a = some o → ∃ (o : Obj) (its : Array Value) (n : Nat), K.lookup a = some o ∧ o.cls = .type "list" ∧ o.dict = none ∧ o.data = .seq its n ∧ its.size ≤ sizeLine ∧ Vals (ns.map V.int) its.toList) → sp [.ref a] H (fun v _ => v = .bl true) fun _ _ _ => False)
    (hCX : ∀ H e s', CX [] H s₁ (fun _ _ _ => False) e s' → False) :
    codeAny (model P w) callerA (.call (.ref fa) ⟨[.ref a], []⟩) (fun r s' => r = .ok (.ret (.bool true)) ∧ OldK s₁.heap s'.heap ∧ s'.os = s₁.os ∧ AllBare s'.gens) s₁ := by
  have rv := vals_ints hi
  have inT : ∀ b, b ∈ cs.map (·.2) → s₁.heap.get? b = some (PySem.W.tabObj #[]) := by
    rintro b hb
    obtain ⟨p, hp, rfl⟩ := List.mem_map.mp hb
    exact (hT p hp).2
  have aT : a ∉ cs.map (·.2) := fun z => by
    have q := inT a z
    rw [ha] at q
    cases congrArg Obj.data (Option.some.inj q)
  let o0 : Obj := { cls := .type "list", data := .seq vs.toArray }
  let H := startH K cs a o0 ns
  have hH : ∀ p ∈ cs, H p.2 = some (.tbl #[]) := fun p hp => if_pos (List.mem_map.mpr ⟨p, hp, rfl⟩)
  have hA : K.lookup a = none → H a = some (.frz o0 (.lst (ns.map V.int))) := fun z => (if_neg aT).trans (if_pos ⟨rfl, z⟩)
  have hno : ∀ b, b ∉ cs.map (·.2) → (b = a → K.lookup a ≠ none) → H b = none := fun b h1 h2 => (if_neg h1).trans (if_neg fun z => h2 z.1 z.2)
  have hok : HOk P w H s₁.heap := fun b u z => by
    have z' : (if b ∈ cs.map (·.2) then some (HO.tbl #[]) else if b = a ∧ K.lookup a = none then some (HO.frz o0 (.lst (ns.map V.int))) else none) = some u := z
    split at z'
    · rename_i hm
      cases z'
      exact inT b hm
    · split at z'
      · rename_i hm
        cases z'
        rw [hm.1]
        exact ⟨ha, by rw [List.length_map]; exact hl, vs, _, rv, ha⟩
      · cases z'
  -- untracked: what is neither a table nor a list
  have fre : ∀ {b : Addr} {o : Obj}, s₁.heap.get? b = some o → (∀ us n, o.data ≠ .seq us n) → o.data ≠ .fields #[] → H b = none := fun {b o} e h1 h2 => by
    refine hno b (fun z => ?_) fun z _ => ?_
    · have q := inT b z
      rw [e] at q
      exact h2 (congrArg Obj.data (Option.some.inj q))
    · rw [z, ha] at e
      cases e
      exact h1 _ _ rfl
  have stay : ∀ {b : Addr} {o : Obj}, s₁.heap.get? b = some o → H b = none → (hidT s₁.heap H).get? b = some o := fun e n => hidT_get e n
  have stayN : ∀ {b : Addr} {m : Str → Option Value}, s₁.heap.Ns b m → (hidT s₁.heap H).Ns b m := fun {b m} ⟨o, es, ep, e, d, r⟩ => ⟨o, es, ep, stay e (fre e (fun us n z => by rw [d] at z; cases z) fun z => by rw [d] at z; cases z), d, r⟩
  have kb : K.In (hidT s₁.heap H) := fun b o e => stay (KX b o e) (hno b (fun z => by
    obtain ⟨p, hp, ep⟩ := List.mem_map.mp z
    rw [← ep, nT p hp] at e
    cases e) fun z n => by
      rw [z, n] at e
      cases e)
  have tb : ∀ p ∈ cs, LamX.TabB (hidT s₁.heap H) mg p.1 p.2 := fun p hp => by
    refine ⟨?_, ?_, fun z => ?_⟩
    · obtain ⟨o, us, fl, tf, fg, tg, inF, tx, tt, e1, r1, r2, r3, rest⟩ := (hT p hp).1
      refine ⟨o, us, fl, tf, fg, tg, inF, tx, tt, stay e1 (fre e1 (fun us' n z => by rw [r2] at z; cases z) fun z => ?_), r1, r2, r3, rest⟩
      rw [r2] at z
      cases z
      simp at r3
    · obtain ⟨bm, ob, b1, b2, b3, b4, b5, b6⟩ := hbm
      refine ⟨bm, ob, b1, b2, fun q => ?_, fun q => ?_, stay b3 (fre b3 (fun us n z => by rw [b6] at z; cases z) fun z => by rw [b6] at z; cases z), b4, b5, b6⟩
      · obtain ⟨o, es, ep, e, d, _⟩ := hns
        rw [q, e] at b3
        cases b3
        rw [d] at b6
        cases b6
      · rw [q, (hT p hp).2] at b3
        cases b3
        cases b6
    · obtain ⟨o, es, ep, e, d, _⟩ := hns
      rw [z, (hT p hp).2] at e
      cases e
      cases d
  have md : Mod K mg (hidT s₁.heap H) := ⟨kb, stayN hns, ⟨mb, stayN hb, hbb⟩, let ⟨mc, h1, h2⟩ := hlim; ⟨mc, stayN h1, h2⟩⟩
  have env : Env0 P w K mg (hidT s₁.heap H) callerA [] s₁ H := ⟨rfl, md, fun b o e => of_hidT e, Nat.le_of_eq (hidT_size _ _), trivial, fun b hb => absurd (show b ∈ ([] : List Addr) from hb) (by simp), hok, .of_eq hg⟩
  have sq : ∀ o, K.lookup a = some o → ∃ (o : Obj) (its : Array Value) (n : Nat), K.lookup a = some o ∧ o.cls = .type "list" ∧ o.dict = none ∧ o.data = .seq its n ∧ its.size ≤ sizeLine ∧ Vals (ns.map V.int) its.toList := fun o hk => by
    have e := KX a o hk
    rw [ha] at e
    cases e
    exact ⟨_, vs.toArray, _, hk, rfl, rfl, rfl, by rw [List.size_toArray, hi.length]; exact hl, by simpa using rv⟩
  refine codeAny_mono ((F _ kb (stayN hns) tb).run callerA [] s₁ H ⟨[.ref a], []⟩ [.ref a] [.ref a] _ _ hr rfl env hbind (.cons rfl .nil) (hsp H hH (fun z => ⟨_, hA z⟩) sq)) fun r s' h => ?_
  cases r with
  | error e => exact (hCX H e s' h).elim
  | ok fl =>
    cases fl with
    | next => exact False.elim h
    | brk => exact False.elim h
    | cont => exact False.elim h
    | ret u =>
      obtain ⟨v, H', os, bare, un, hok', r', rfl⟩ := h
      obtain rfl : u = Value.bool true := r'
      have kept : ∀ b o, b ∉ cs.map (·.2) → s₁.heap.get? b = some o → s'.heap.get? b = some o := fun b o nb e => by
        by_cases hq : b = a ∧ K.lookup a = none
        · have z : H b = some (.frz o0 (.lst (ns.map V.int))) := by rw [hq.1]; exact hA hq.2
          obtain ⟨g1, _⟩ := hok b _ z
          obtain ⟨g2, _⟩ := hok' b _ (un.frzs b o0 _ z)
          rw [e] at g1
          cases g1
          exact g2
        · exact un.keep b o e (hno b nb fun z n => hq ⟨z, n⟩) (by intro z; exact absurd (show b ∈ ([] : List Addr) from z) (by simp)) (by simp)
      have grown : ∀ p ∈ cs, ∃ more : Array Value, s'.heap.get? p.2 = some (PySem.W.tabObj more) := fun p hp => by
        obtain ⟨more, z⟩ := un.tbls p.2 #[] (hH p hp)
        exact ⟨_, hok' p.2 _ z⟩
      refine ⟨rfl, ⟨fun b o e => ?_, fun b o e => ?_⟩, os, bare⟩
      · by_cases hm : b ∈ cs.map (·.2)
        · obtain ⟨p, hp, ep⟩ := List.mem_map.mp hm
          obtain ⟨more, z⟩ := grown p hp
          rw [← ep] at e ⊢
          rw [(hT p hp).2] at e
          cases e
          exact .inr (.inl ⟨((hT p hp).1.tab (hT p hp).2).isCodeTable, rfl, #[], more, rfl, by rw [Array.empty_append]; exact z⟩)
        · exact .inl (kept b o hm e)
      · by_cases hm : b ∈ cs.map (·.2)
        · obtain ⟨p, hp, ep⟩ := List.mem_map.mp hm
          obtain ⟨more, z⟩ := grown p hp
          rw [← ep]
          exact ⟨_, z⟩
        · exact ⟨o, kept b o hm e⟩

/-- the tables of the def that makes a lambda -/
structure TabIn (K : PySem.W.Frag) (h : Heap) : Prop where
  ex : ∃ cs : List (Addr × Addr), (∀ p ∈ cs, PySem.W.CodeHd h p.1 p.2 ∧ h.get? p.2 = some (PySem.W.tabObj #[])) ∧ (∀ p ∈ cs, K.lookup p.2 = none) ∧ ∀ c P, PySem.W.tabIn K lamF = some (c, P) → (c, P) ∈ cs
/-- the goal that k_head leaves, from what run tells of the law's def -/
theorem walk_G {l : PySem.W.OpenLaw} {n : Nat} {q : Program} {loose : List Str} {XP : (Str → Option Value) → Heap → Prop} {YP : World → Heap → Prop} {d : DefRec} {K : Params → PySem.W.Frag} (N F : Nat) {γ : Str → Option D} {Δ : Str → Option Fn} {xs : List Str} {x : Str} {fn : Fn}
    (hn : l.most = some n) (hn2 : n ≤ sizeLine) (hdf : d.params.defaults = []) (hr : Room (N + 3) callerA)
    (hY : ∀ (w : World) (h : Heap), YP w h → (K w.params).In h)
    (T : ∀ (w : World) (mg : Str → Option Value) (h : Heap), (K w.params).In h → h.Ns mainGlobals mg → Top (K w.params) mg γ Δ xs)
    (tb : ∀ (w : World) (loose : List Str) (mean : ExcName → Option Value) (mg mb : Str → Option Value) (h : Heap), PyProof.Rows.Top q loose mean mg mb h → (K w.params).In h → TabIn (K w.params) h)
    (hfn : Δ d.name = some fn) (hps : fn.ps = [x])
    (hlaw : ∀ (ns : List Int), ns.length ≤ n → (∀ z ∈ ns, Builtin.Int.intBits z ≤ 1048576) → ∃ μ, runFn (run Δ γ F N) γ F fn [.scr ns] [] = .ok (.dt (.bool true)) μ) :
    PySem.W.WalkO q loose XP YP l.row.toRowW d [] (fun f vs => PySem.call f vs) := by
  refine Att.attach_callB hn hdf fun w s₀ s₁ mg mb fa o pm cd doc a vs ns G Y ho hdd hcd hmg hobj hints hlen hbits hg => ?_
  have KX := hY w _ Y
  have Tp := T w mg _ KX G.T.g
  obtain ⟨st, a1, fd, hm1, Fu, hb, sc, mt⟩ := Tp.defs d.name fn hfn
  have ea : a1 = fa := by
    have := hm1.symm.trans hmg
    cases this
    rfl
  subst ea
  obtain ⟨μ, hrun⟩ := hlaw ns hlen hbits
  have b1 := hb s₁ [.ref a] KX (by rw [hps]; rfl)
  rw [hps, List.append_nil] at b1
  obtain ⟨cs, c1, c2, c3⟩ := (tb w _ _ _ _ _ G.T KX).ex
  have FF : ∀ base : Heap, (K w.params).In base → base.Ns mainGlobals mg → (∀ p ∈ cs, LamX.TabB base mg p.1 p.2) → FnG l.prog w (K w.params) mg base (L2N.CX l.prog w) (N + 1) a1 fd [x] (spR mg (K w.params) (runFn (run Δ γ F N) γ F fn) 1) := fun base kb gb tB => by
    have hB : ∀ cc PP, PySem.W.tabIn (K w.params) lamF = some (cc, PP) → LamX.TabB base mg cc PP := fun cc PP e => tB _ (c3 cc PP e)
    have z := fn_step (P := l.prog) (w := w) (base := base) Tp F (top_fns Tp F kb gb hB N) Fu sc mt kb gb hB hm1 fun e => Tp.tab (by rw [← e, hfn]; simp)
    rw [hps] at z
    exact z
  refine law_callG KX G.T.g G.T.b G.T.builtins G.T.nolimit hg c1 c2 G.T.bmain hobj hints (Nat.le_trans hlen hn2) hr FF b1 (fun H hH hA hS => ?_) fun H e s' h => ?_
  · refine ⟨rfl, fun cc PP e => LamX.TabS.nil (hH _ (c3 cc PP e)), fun _ => False, [], [.scr ns], [], ⟨rfl, fun n e h => by simp at h, fun a h => h.elim, fun n m p e f h => by simp at h⟩, .cons ⟨a, rfl, ?_⟩ .nil, ?_⟩
    · cases hk : (K w.params).lookup a with
      | none =>
        obtain ⟨o, z⟩ := hA hk
        refine .inl ⟨o, z, ?_⟩
        rintro (z | ⟨n, e, z, _⟩)
        · exact z
        · simp at z
      | some o =>
        obtain ⟨o1, its, n1, z1, z2⟩ := hS o hk
        exact .inr ⟨o1, its, n1, by rw [← hk]; exact z1, z2⟩
    · rw [hrun]
      intro H' as' e w' v vo
      have vo : Dm _ _ _ _ := vo
      cases vo
      rfl
  · obtain ⟨_, _, _, _, _, _, _, _, _, _, _, _, z⟩ := h
    exact z.elim
end TL
/-! T19: the facts of the top -/
namespace TL
open PySem PySem.Spec PyProof.Rows L2
set_option autoImplicit false
structure DefIn (K : PySem.W.Frag) (x : Str) (st : Stmt) : Prop where
  ex : ∃ (f : Addr) (oc : Value) (od : Option Addr) (kV doc pm : Value) (an : Option Addr) (cdv ct : Value) (osl : Array (Option Value)), PySem.W.nsIn K mainGlobals x = some (some (.ref f)) ∧
    K.lookup f = some ⟨oc, od, .func (PySem.W.fnOf x x (defArgs st) (defBody st) (defScope st) .none kV doc pm an cdv ct), osl⟩ ∧ PySem.W.codeIn K cdv x = true ∧ PySem.W.keepIn K (.ref f) = true
theorem def_mk {K : PySem.W.Frag} {x : Str} {st : Stmt} {f : Addr} {oc : Value} {od : Option Addr} {kV doc pm : Value} {an : Option Addr} {cdv ct : Value} {osl : Array (Option Value)} (a : PySem.W.nsIn K mainGlobals x = some (some (.ref f)))
    (l : K.lookup f = some ⟨oc, od, .func (PySem.W.fnOf x x (defArgs st) (defBody st) (defScope st) .none kV doc pm an cdv ct), osl⟩) (c : PySem.W.codeIn K cdv x = true) (k : PySem.W.keepIn K (.ref f) = true) : DefIn K x st := ⟨f, oc, od, kV, doc, pm, an, cdv, ct, osl, a, l, c, k⟩
/-- a constant of the module -/
def conV (u : Value) : D → Prop
  | .none => u = .none
  | .bool b => u = .bool b
  | .int i => ∃ t, u = .int i t
  | .str s => ∃ t, u = .str s t
  | _ => False
structure GlbIn (K : PySem.W.Frag) (x : Str) (d : D) : Prop where
  ex : ∃ u, PySem.W.nsIn K mainGlobals x = some (some u) ∧ conV u d
theorem glb_int {K : PySem.W.Frag} {x : Str} {i : Int} {t : Tok} (h : PySem.W.nsIn K mainGlobals x = some (some (.int i t))) : GlbIn K x (.int i) := ⟨_, h, t, rfl⟩
theorem glb_str {K : PySem.W.Frag} {x : Str} {i : Str} {t : Tok} (h : PySem.W.nsIn K mainGlobals x = some (some (.str i t))) : GlbIn K x (.str i) := ⟨_, h, t, rfl⟩
structure ExcIn (K : PySem.W.Frag) (x : Str) : Prop where
  ex : ∃ C, PySem.W.nsIn K mainGlobals x = some (some (.ref C)) ∧ PySem.W.excIn K C [.type "ValueError", .type "Exception", .type "BaseException", .type "object"] "ValueError.__new__" = true ∧ PySem.W.keepIn K (.ref C) = true ∧ PySem.W.subIn K (.ref C) (.type "BaseException") = some true ∧ PySem.W.typeIn K (.ref C) = some (.type "type")
theorem exc_mk {K : PySem.W.Frag} {x : Str} {C : Addr} (a : PySem.W.nsIn K mainGlobals x = some (some (.ref C))) (e : PySem.W.excIn K C [.type "ValueError", .type "Exception", .type "BaseException", .type "object"] "ValueError.__new__" = true) (k : PySem.W.keepIn K (.ref C) = true)
    (b : PySem.W.subIn K (.ref C) (.type "BaseException") = some true) (t : PySem.W.typeIn K (.ref C) = some (.type "type")) : ExcIn K x := ⟨C, a, e, k, b, t⟩
def BltIn (K : PySem.W.Frag) : Prop := ∀ x ∈ bltNames, PySem.W.nsIn K mainGlobals x = some none
def lookF (t : List (Str × Fn)) : Str → Option Fn := fun f => t.lookup f
def lookG (t : List (Str × D)) : Str → Option D := fun f => t.lookup f
/-- a class of the module -/
structure ClsIn (K : PySem.W.Frag) (y : Str) : Prop where
  ex : ∃ C, PySem.W.nsIn K mainGlobals y = some (some (.ref C))
/-- an exception's class x, asked for y -/
structure AskIn (K : PySem.W.Frag) (x y : Str) (b : Bool) : Prop where
  ex : ∃ D C, PySem.W.nsIn K mainGlobals x = some (some (.ref D)) ∧ PySem.W.nsIn K mainGlobals y = some (some (.ref C)) ∧ PySem.W.kitOne K (.ref D) (.ref C) = some b
theorem cls_mk {K : PySem.W.Frag} {y : Str} {C : Addr} (a : PySem.W.nsIn K mainGlobals y = some (some (.ref C))) : ClsIn K y := ⟨C, a⟩
theorem kit_ref {K : PySem.W.Frag} {D C : Addr} {b : Bool} (n : (D == C) = false) (d : PySem.W.hasDictIn K C = true) (t : PySem.W.typeIn K (.ref C) = some (.type "type")) (s : PySem.W.subIn K (.ref D) (.ref C) = some b) : PySem.W.kitOne K (.ref D) (.ref C) = some b := by
  obtain ⟨cd, hc, _⟩ := PySem.W.any_some d
  unfold PySem.W.kitOne
  have e : ((Value.ref D : Value) == Value.ref C) = false := by
    refine Bool.eq_false_iff.mpr fun q => ?_
    have z := Value.ref.inj (beq_iff_eq.mp q)
    rw [z] at n
    simp at n
  rw [e, if_neg Bool.false_ne_true]
  show (if ((PySem.W.clsIn K C).isSome && PySem.W.typeIn K (.ref C) == some (.type "type")) = true then PySem.W.subIn K (.ref D) (.ref C) else none) = some b
  rw [if_pos (by rw [hc, t] <;> rfl)]
  exact s
theorem ask_no {K : PySem.W.Frag} {x y : Str} {D C : Addr} (a : PySem.W.nsIn K mainGlobals x = some (some (.ref D))) (c : PySem.W.nsIn K mainGlobals y = some (some (.ref C))) (d : PySem.W.hasDictIn K C = true) (t : PySem.W.typeIn K (.ref C) = some (.type "type")) (s : PySem.W.subIn K (.ref D) (.ref C) = some false) (n : (D == C) = false) : AskIn K x y false := ⟨D, C, a, c, kit_ref n d t s⟩
theorem ask_yes {K : PySem.W.Frag} {x : Str} {D : Addr} (a : PySem.W.nsIn K mainGlobals x = some (some (.ref D))) : AskIn K x x true := ⟨D, D, a, a, by unfold PySem.W.kitOne; rw [if_pos (beq_self_eq_true _)]⟩
/-- a class that is caught -/
structure CatIn (K : PySem.W.Frag) (x : Str) : Prop where
  ex : ∃ D T, PySem.W.nsIn K mainGlobals x = some (some (.ref D)) ∧ PySem.W.nsIn K mainGlobals "TurnError" = some (some (.ref T)) ∧ PySem.W.kitOne K (.ref D) (.ref T) = some true ∧ PySem.W.exmOne K (.ref D) (.ref T) = some true ∧ PySem.W.kitOne K (.ref D) (.type "ValueError") = some true ∧ ExcC K D
theorem cat_mk {K : PySem.W.Frag} {x : Str} {D T : Addr} (a : PySem.W.nsIn K mainGlobals x = some (some (.ref D))) (t : PySem.W.nsIn K mainGlobals "TurnError" = some (some (.ref T))) (k1 : PySem.W.hasDictIn K T = true) (k2 : PySem.W.typeIn K (.ref T) = some (.type "type")) (k3 : PySem.W.subIn K (.ref D) (.ref T) = some true) (k4 : PySem.W.subIn K (.ref T) (.type "BaseException") = some true) (v : PySem.W.subIn K (.ref D) (.type "ValueError") = some true)
    (e1 : PySem.W.findIn K (.ref D) "__getattribute__" = some (some (.builtin "BaseException.__getattribute__"))) (e2 : PySem.W.findIn K (.ref D) "__getattr__" = some none) (e3 : PySem.W.subIn K (.ref D) (.type "BaseException") = some true) (e4 : PySem.W.hasDictIn K D = true)
    (e5 : PySem.W.findIn K (.ref D) "__class__" = some (some (.builtin "object.__class__"))) (e6 : PySem.W.specialIn K (.builtin "object.__class__") "__get__" = some (some (.builtin "getset_descriptor.__get__"))) (e7 : PySem.W.takesIn K (.builtin "object.__class__") = some true) (e8 : PySem.W.mroIn K D (.type "object") = some true) (n : (D == T) = false) : CatIn K x :=
  ⟨D, T, a, t, kit_ref n k1 k2 k3, PySem.W.exm_ref k4 k1 k2 k3, by
    show (if ((Value.ref D : Value) == Value.type "ValueError") = true then some true else PySem.W.kitCls K (.ref D) (.type "ValueError")) = some true
    rw [if_neg (by intro q; cases beq_iff_eq.mp q)]
    show (if PySem.W.kitMeta "ValueError" = true then PySem.W.subIn K (.ref D) (.type "ValueError") else none) = some true
    rw [if_pos (by decide +kernel)]
    exact v, e1, e2, e3, e4, e5, e6, e7, e8⟩
theorem fn_in {K : PySem.W.Frag} {h : Heap} {mg : Str → Option Value} (X : K.In h) (G : h.Ns mainGlobals mg) {f : Str} {st : Stmt} {ps : List Str} (d : DefIn K f st) (bi : ∀ (kV doc pm : Value) (an : Option Addr) (cdv ct : Value) (us : List Value), us.length = ps.length → bindArgs (PySem.W.fnOf f f (defArgs st) (defBody st) (defScope st) .none kV doc pm an cdv ct) ⟨us, []⟩ = pure (ps.zip us)) :
    ∃ a fd, mg f = some (.ref a) ∧ Fun K f f st a fd ∧ Binds K fd ps [] := by
  obtain ⟨a, oc, od, kV, doc, pm, an, cdv, ct, osl, h1, h2, h3, h4⟩ := d.ex
  have Fu := fun_mk (x := f) (st := st) h2 h3 h4
  exact ⟨a, _, PySem.W.mg_of X G h1, Fu, Fu.binds bi⟩
theorem try_mk {K : PySem.W.Frag} {h : Heap} {mg : Str → Option Value} {xs : List Str} (X : K.In h) (G : h.Ns mainGlobals mg) {sc so : Stmt} (dc : DefIn K "_law_classes" sc) (bc : ∀ (kV doc pm : Value) (an : Option Addr) (cdv ct : Value) (us : List Value), us.length = (["_law_e"] : List Str).length → bindArgs (PySem.W.fnOf "_law_classes" "_law_classes" (defArgs sc) (defBody sc) (defScope sc) .none kV doc pm an cdv ct) ⟨us, []⟩ = pure ((["_law_e"] : List Str).zip us))
    (fc : FnScope ["_law_e", "_law_found"] ["_law_e"] (defScope sc)) (mc : clsM sc = true) (d2 : DefIn K "_law_only" so) (b2 : ∀ (kV doc pm : Value) (an : Option Addr) (cdv ct : Value) (us : List Value), us.length = (["_law_e", "_law_place"] : List Str).length → bindArgs (PySem.W.fnOf "_law_only" "_law_only" (defArgs so) (defBody so) (defScope so) .none kV doc pm an cdv ct) ⟨us, []⟩ = pure ((["_law_e", "_law_place"] : List Str).zip us))
    (f2 : FnScope ["_law_e", "_law_place", "_law_k"] ["_law_e", "_law_place"] (defScope so)) (m2 : onlM so = true) (ht : ClsIn K "TurnError") (hv : PySem.W.nsIn K mainGlobals "ValueError" = some none) (hn : ∀ y ∈ names8, ClsIn K y) (hc : ∀ x ∈ xs, x ∈ names8 → CatIn K x) (ha : ∀ x ∈ xs, x ∈ names8 → ∀ y ∈ names8, AskIn K x y (decide (y = x))) (b : BltIn K) (fB : fmA xs = false) : TryTop K mg xs := by
  obtain ⟨a1, fd1, p1, p2, p3⟩ := fn_in X G dc bc
  obtain ⟨a2, fd2, q1, q2, q3⟩ := fn_in X G d2 b2
  have one : ∀ {x : Str} {D C : Addr}, mg x = some (.ref D) → PySem.W.nsIn K mainGlobals x = some (some (.ref C)) → C = D := fun e1 e2 => by
    have := PySem.W.mg_of X G e2
    rw [e1] at this
    cases this
    rfl
  refine ⟨fun _ => ⟨sc, a1, fd1, p1, p2, p3, fc, mc⟩, fun z => absurd z (by rw [fB]; exact Bool.false_ne_true), fun _ => ⟨so, a2, fd2, q1, q2, q3, f2, m2⟩, ?_, ⟨PySem.W.mg_none_of X G hv, fun x hx h8 D hD => ?_⟩, fun y hy => ?_, fun x hx h8 D hD => ?_, PySem.W.mg_none_of X G (b _ (by decide)), PySem.W.mg_none_of X G (b _ (by decide))⟩
  · obtain ⟨T, ht⟩ := ht.ex
    refine ⟨T, PySem.W.mg_of X G ht, fun x hx h8 D hD => ?_⟩
    obtain ⟨D', T', g1, g2, g3, g4, g5, g6⟩ := (hc x hx h8).ex
    rw [ht] at g2
    cases g2
    cases one hD g1
    exact ⟨g3, g4⟩
  · obtain ⟨D', T', g1, g2, g3, g4, g5, g6⟩ := (hc x hx h8).ex
    cases one hD g1
    exact g5
  · obtain ⟨C, hC⟩ := (hn y hy).ex
    refine ⟨C, PySem.W.mg_of X G hC, fun x hx h8 D hD => ?_⟩
    obtain ⟨D', C', g1, g2, g3⟩ := (ha x hx h8 y hy).ex
    rw [hC] at g2
    cases g2
    cases one hD g1
    exact g3
  · obtain ⟨D', T', g1, g2, g3, g4, g5, g6⟩ := (hc x hx h8).ex
    cases one hD g1
    exact g6
theorem try_mkA {K : PySem.W.Frag} {h : Heap} {mg : Str → Option Value} {xs : List Str} (X : K.In h) (G : h.Ns mainGlobals mg) {sc : Stmt} (dc : DefIn K "_law_marks" sc) (bc : ∀ (kV doc pm : Value) (an : Option Addr) (cdv ct : Value) (us : List Value), us.length = (["_law_e"] : List Str).length → bindArgs (PySem.W.fnOf "_law_marks" "_law_marks" (defArgs sc) (defBody sc) (defScope sc) .none kV doc pm an cdv ct) ⟨us, []⟩ = pure ((["_law_e"] : List Str).zip us))
    (fc : FnScope ["_law_e", "_law_found"] ["_law_e"] (defScope sc)) (mc : mrkM sc = true) (ht : ClsIn K "TurnError") (hv : PySem.W.nsIn K mainGlobals "ValueError" = some none) (hn : ∀ y ∈ names8, ClsIn K y) (hc : ∀ x ∈ xs, x ∈ names8 → CatIn K x) (ha : ∀ x ∈ xs, x ∈ names8 → ∀ y ∈ names8, AskIn K x y (decide (y = x))) (b : BltIn K) (fA : fmA xs = true) : TryTop K mg xs := by
  obtain ⟨a1, fd1, p1, p2, p3⟩ := fn_in X G dc bc
  have one : ∀ {x : Str} {D C : Addr}, mg x = some (.ref D) → PySem.W.nsIn K mainGlobals x = some (some (.ref C)) → C = D := fun e1 e2 => by
    have := PySem.W.mg_of X G e2
    rw [e1] at this
    cases this
    rfl
  refine ⟨fun z => absurd z (by rw [fA]; exact Bool.noConfusion), fun _ => ⟨sc, a1, fd1, p1, p2, p3, fc, mc⟩, fun z => absurd z (by rw [fA]; exact Bool.noConfusion), ?_, ⟨PySem.W.mg_none_of X G hv, fun x hx h8 D hD => ?_⟩, fun y hy => ?_, fun x hx h8 D hD => ?_, PySem.W.mg_none_of X G (b _ (by decide)), PySem.W.mg_none_of X G (b _ (by decide))⟩
  · obtain ⟨T, ht⟩ := ht.ex
    refine ⟨T, PySem.W.mg_of X G ht, fun x hx h8 D hD => ?_⟩
    obtain ⟨D', T', g1, g2, g3, g4, g5, g6⟩ := (hc x hx h8).ex
    rw [ht] at g2
    cases g2
    cases one hD g1
    exact ⟨g3, g4⟩
  · obtain ⟨D', T', g1, g2, g3, g4, g5, g6⟩ := (hc x hx h8).ex
    cases one hD g1
    exact g5
  · obtain ⟨C, hC⟩ := (hn y hy).ex
    refine ⟨C, PySem.W.mg_of X G hC, fun x hx h8 D hD => ?_⟩
    obtain ⟨D', C', g1, g2, g3⟩ := (ha x hx h8 y hy).ex
    rw [hC] at g2
    cases g2
    cases one hD g1
    exact g3
  · obtain ⟨D', T', g1, g2, g3, g4, g5, g6⟩ := (hc x hx h8).ex
    cases one hD g1
    exact g6
theorem top_of {K : PySem.W.Frag} {h : Heap} {mg : Str → Option Value} {tab : List (Str × Fn)} {gam : List (Str × D)} {xs : List Str} (X : K.In h) (G : h.Ns mainGlobals mg)
    (hd : ∀ p ∈ tab, ∃ st, DefIn K p.1 st ∧ (∀ (kV doc pm : Value) (an : Option Addr) (cdv ct : Value) (us : List Value), us.length = p.2.ps.length → bindArgs (PySem.W.fnOf p.1 p.1 (defArgs st) (defBody st) (defScope st) .none kV doc pm an cdv ct) ⟨us, []⟩ = pure (p.2.ps.zip us)) ∧ FnScope p.2.N p.2.ps (defScope st) ∧ matFn p.1 xs p.2 st = true)
    (hg : ∀ p ∈ gam, GlbIn K p.1 p.2) (hx : ∀ x ∈ xs, ExcIn K x) (b : BltIn K) (tr : ("TurnError" : Str) ∈ xs → TryTop K mg xs) (tb : lookF tab lamF ≠ none → ∃ cc PP, PySem.W.tabIn K lamF = some (cc, PP)) : Top K mg (lookG gam) (lookF tab) xs where
  tab := tb
  tr := tr
  gam := fun x d e => by
    obtain ⟨u, h1, h2⟩ := (hg (x, d) (PySem.mem_of_lookup e)).ex
    have hm := PySem.W.mg_of X G h1
    cases d with
    | none => exact ⟨u, .non, hm, h2, fun M H => .non⟩
    | bool b => exact ⟨u, .bl b, hm, h2, fun M H => .bl b⟩
    | int i => exact ⟨u, .int i, hm, h2, fun M H => .int i⟩
    | str i => exact ⟨u, .str i, hm, h2, fun M H => .str i⟩
    | _ => exact h2.elim
  blt := fun x hx => PySem.W.mg_none_of X G (b x hx)
  exb := fun x q => by
    obtain ⟨C, h1, h2, h3, h4, h5⟩ := (hx x q).ex
    exact ⟨C, _, _, _, _, PySem.F.excBase_ValueError, h2, PySem.W.mg_of X G h1, h3, h4, h5⟩
  defs := fun f fn e => by
    obtain ⟨st, d, bi, sc, mt⟩ := hd (f, fn) (PySem.mem_of_lookup e)
    obtain ⟨a, oc, od, kV, doc, pm, an, cdv, ct, osl, h1, h2, h3, h4⟩ := d.ex
    have Fu := fun_mk (x := f) (st := st) h2 h3 h4
    exact ⟨st, a, _, PySem.W.mg_of X G h1, Fu, Fu.binds bi, sc, mt⟩
theorem tabIn_mk {K : PySem.W.Frag} {x : Str} {f c P : Addr} {oc d1 : Value} {od d2 : Option Addr} {n1 q1 : Str} {ps : Arguments} {bd : List Stmt} {sc : Scope} {dV kV doc pm ct : Value} {an : Option Addr} {osl s2 : Array (Option Value)} {vs : Array Value} (a : PySem.W.nsIn K mainGlobals x = some (some (.ref f))) (l : K.lookup f = some ⟨oc, od, .func (PySem.W.fnOf n1 q1 ps bd sc dV kV doc pm an (.ref c) ct), osl⟩)
    (cc : K.lookup c = some ⟨d1, d2, .fields vs, s2⟩) (v : vs[11]? = some (.ref P)) : PySem.W.tabIn K x = some (c, P) := by
  unfold PySem.W.tabIn
  simp only [a, l, cc, v]
/-- no def makes a lambda -/
theorem tabs_none {K : PySem.W.Frag} (h : PySem.W.nsIn K mainGlobals lamF = some none) : PySem.W.tabIn K lamF = none := by
  unfold PySem.W.tabIn
  rw [h]
theorem tab_no {K : PySem.W.Frag} {h : Heap} (e : PySem.W.tabIn K lamF = none) : TabIn K h := ⟨[], fun p hp => (nomatch hp), fun p hp => (nomatch hp), fun c P z => by rw [e] at z; cases z⟩
/-- one does -/
theorem tab_yes {K : PySem.W.Frag} {h : Heap} {q : Program} {loose : List Str} {mean : ExcName → Option Value} {mg mb : Str → Option Value} {d : DefRec} {c P : Addr} (T : PyProof.Rows.Top q loose mean mg mb h) (X : K.In h) (hr : (recsOf q).find? (fun e => e.name == lamF) = some d) (ht : PySem.W.tabIn K lamF = some (c, P)) (hn : K.lookup P = none) : TabIn K h :=
  ⟨[(c, P)], fun p hp => by rw [List.mem_singleton.mp hp]; exact PySem.W.tab_of T X hr ht, fun p hp => by rw [List.mem_singleton.mp hp]; exact hn, fun c' P' z => by
    rw [ht] at z
    cases z
    exact List.mem_singleton.mpr rfl⟩
theorem blt_of {K : PySem.W.Frag} (b0 : PySem.W.nsIn K mainGlobals "len" = some none) (b1 : PySem.W.nsIn K mainGlobals "isinstance" = some none) (b2 : PySem.W.nsIn K mainGlobals "range" = some none) (b3 : PySem.W.nsIn K mainGlobals "zip" = some none) (b4 : PySem.W.nsIn K mainGlobals "enumerate" = some none) (b5 : PySem.W.nsIn K mainGlobals "abs" = some none) (b6 : PySem.W.nsIn K mainGlobals "max" = some none) (b7 : PySem.W.nsIn K mainGlobals "min" = some none) (b8 : PySem.W.nsIn K mainGlobals "int" = some none) (b9 : PySem.W.nsIn K mainGlobals "str" = some none) (b10 : PySem.W.nsIn K mainGlobals "all" = some none) (b11 : PySem.W.nsIn K mainGlobals "any" = some none) (b12 : PySem.W.nsIn K mainGlobals "tuple" = some none) (b13 : PySem.W.nsIn K mainGlobals "list" = some none) (b14 : PySem.W.nsIn K mainGlobals "sorted" = some none) (b15 : PySem.W.nsIn K mainGlobals "sum" = some none) (b16 : PySem.W.nsIn K mainGlobals "divmod" = some none) (b17 : PySem.W.nsIn K mainGlobals "repr" = some none) (b18 : PySem.W.nsIn K mainGlobals "set" = some none) (b19 : PySem.W.nsIn K mainGlobals "bool" = some none) (b20 : PySem.W.nsIn K mainGlobals "dict" = some none) (b21 : PySem.W.nsIn K mainGlobals "NoneType" = some none) : BltIn K := by
  intro x hx
  rcases List.mem_cons.mp hx with rfl | hx
  · exact b0
  rcases List.mem_cons.mp hx with rfl | hx
  · exact b1
  rcases List.mem_cons.mp hx with rfl | hx
  · exact b2
  rcases List.mem_cons.mp hx with rfl | hx
  · exact b3
  rcases List.mem_cons.mp hx with rfl | hx
  · exact b4
  rcases List.mem_cons.mp hx with rfl | hx
  · exact b5
  rcases List.mem_cons.mp hx with rfl | hx
  · exact b6
  rcases List.mem_cons.mp hx with rfl | hx
  · exact b7
  rcases List.mem_cons.mp hx with rfl | hx
  · exact b8
  rcases List.mem_cons.mp hx with rfl | hx
  · exact b9
  rcases List.mem_cons.mp hx with rfl | hx
  · exact b10
  rcases List.mem_cons.mp hx with rfl | hx
  · exact b11
  rcases List.mem_cons.mp hx with rfl | hx
  · exact b12
  rcases List.mem_cons.mp hx with rfl | hx
  · exact b13
  rcases List.mem_cons.mp hx with rfl | hx
  · exact b14
  rcases List.mem_cons.mp hx with rfl | hx
  · exact b15
  rcases List.mem_cons.mp hx with rfl | hx
  · exact b16
  rcases List.mem_cons.mp hx with rfl | hx
  · exact b17
  rcases List.mem_cons.mp hx with rfl | hx
  · exact b18
  rcases List.mem_cons.mp hx with rfl | hx
  · exact b19
  rcases List.mem_cons.mp hx with rfl | hx
  · exact b20
  rcases List.mem_cons.mp hx with rfl | hx
  · exact b21
  cases hx
end TL
/-! T20: plain lemmas of the evaluator -/
namespace TL
open PySem PySem.Spec L2
set_option autoImplicit false
/-- a text of signs -/
abbrev Tx (l : List Nat) : Str := ⟨l.toArray⟩
@[simp] theorem bind_ok {α β : Type} (a : α) (μ : Mu) (k : α → Mu → Rs β) : (Rs.ok a μ).bind k = k a μ := by unfold Rs.bind; exact id rfl
@[simp] theorem bind_exc {α β : Type} (c : Str) (μ : Mu) (k : α → Mu → Rs β) : (Rs.exc c μ : Rs α).bind k = .exc c μ := by unfold Rs.bind; exact id rfl
@[simp] theorem st_ok {α : Type} (a : α) (μ : Mu) (k : α → Mu → RS) : (Rs.ok a μ).st k = k a μ := by unfold Rs.st; exact id rfl
@[simp] theorem st_exc {α : Type} (c : Str) (μ : Mu) (k : α → Mu → RS) : (Rs.exc c μ : Rs α).st k = .exc c μ := by unfold Rs.st; exact id rfl
@[simp] theorem of_some {α : Type} (a : α) (μ : Mu) : Rs.of (some a) μ = .ok a μ := by unfold Rs.of; exact id rfl
@[simp] theorem q_ok {α : Type} (a : α) (μ : Mu) : (Rs.ok a μ).q = .ok a μ := by unfold Rs.q; exact id rfl
@[simp] theorem sq_nx (ρ : Ro) (μ : Mu) (k : Ro → Mu → RS) : seqS (.nx ρ μ) k = k ρ μ := by unfold seqS; exact id rfl
@[simp] theorem sq_rt (x : Vl) (μ : Mu) (k : Ro → Mu → RS) : seqS (.rt x μ) k = .rt x μ := by unfold seqS; exact id rfl
@[simp] theorem sq_bk (ρ : Ro) (μ : Mu) (k : Ro → Mu → RS) : seqS (.bk ρ μ) k = .bk ρ μ := by unfold seqS; exact id rfl
@[simp] theorem sq_ct (ρ : Ro) (μ : Mu) (k : Ro → Mu → RS) : seqS (.ct ρ μ) k = .ct ρ μ := by unfold seqS; exact id rfl
@[simp] theorem sq_ex (c : Str) (μ : Mu) (k : Ro → Mu → RS) : seqS (.exc c μ) k = .exc c μ := by unfold seqS; exact id rfl
theorem runFn_ok {R : Str → Option (List Vl → Mu → Rs Vl)} {γ : Str → Option D} {F : Nat} {fn : Fn} {xs : List Vl} {μ : Mu} (h : xs.length = fn.ps.length) : runFn R γ F fn xs μ = finR μ.length (exec R γ F fn.body (fn.start xs) μ) := if_pos h
@[simp] theorem fn_nx (b : Nat) (ρ : Ro) (μ : Mu) : finR b (.nx ρ μ) = .ok (.dt .none) (μ.take b) := by unfold finR; exact id rfl
@[simp] theorem fn_dt (b : Nat) (d : D) (μ : Mu) : finR b (.rt (.dt d) μ) = .ok (.dt d) (μ.take b) := by unfold finR; exact id rfl
@[simp] theorem fn_fr (b : Nat) (d : List D) (μ : Mu) : finR b (.rt (.fr d) μ) = .ok (.fr d) (μ.take b) := by unfold finR; exact id rfl
@[simp] theorem fn_ex (b : Nat) (c : Str) (μ : Mu) : finR b (.exc c μ) = .exc c (μ.take b) := by unfold finR; exact id rfl
@[simp] theorem if_ok {p : Prop} [Decidable p] (b c : Bool) (μ : Mu) : (if p then (Rs.ok (.dt (.bool b)) μ : Rs Vl) else .ok (.dt (.bool c)) μ) = .ok (.dt (.bool (if p then b else c))) μ := by split <;> rfl
@[simp] theorem if_and (b c : Bool) (μ : Mu) : (if b = true then (Rs.ok (.dt (.bool c)) μ : Rs Vl) else .ok (.dt (.bool b)) μ) = .ok (.dt (.bool (b && c))) μ := by cases b <;> rfl
@[simp] theorem if_and' (b c : Bool) (μ : Mu) : (if b = true then (Rs.ok (.dt (.bool c)) μ : Rs Vl) else .ok (.dt (.bool false)) μ) = .ok (.dt (.bool (b && c))) μ := by cases b <;> rfl
@[simp] theorem if_or (b c : Bool) (μ : Mu) : (if b = true then (Rs.ok (.dt (.bool b)) μ : Rs Vl) else .ok (.dt (.bool c)) μ) = .ok (.dt (.bool (b || c))) μ := by cases b <;> rfl
@[simp] theorem if_or' (b c : Bool) (μ : Mu) : (if b = true then (Rs.ok (.dt (.bool true)) μ : Rs Vl) else .ok (.dt (.bool c)) μ) = .ok (.dt (.bool (b || c))) μ := by cases b <;> rfl
@[simp] theorem drf_dt (μ : Mu) (d : D) : drf μ (.dt d) = some d := rfl
@[simp] theorem drf_fr (μ : Mu) (d : List D) : drf μ (.fr d) = some (.list d) := rfl
@[simp] theorem fz_dt (d : D) : (Vl.dt d).fz = .dt d := rfl
@[simp] theorem fz_hd (n : Nat) : (Vl.hd n).fz = .hd n := rfl
@[simp] theorem fz_fr (d : List D) : (Vl.fr d).fz = .dt (.list d) := rfl
@[simp] theorem fz_scr (d : List Int) : (Vl.scr d).fz = .scr d := rfl
@[simp] theorem data_dt (d : D) : (Vl.dt d).data = some d := rfl
@[simp] theorem data_fr (d : List D) : (Vl.fr d).data = some (.list d) := rfl
@[simp] theorem datas_nil (μ : Mu) : datas μ [] = some [] := rfl
@[simp] theorem datas_dt (μ : Mu) (d : D) (r : List Vl) : datas μ (.dt d :: r) = (datas μ r).map (d :: ·) := by
  simp only [datas, drf]
  cases datas μ r <;> rfl
@[simp] theorem datas_fr (μ : Mu) (d : List D) (r : List Vl) : datas μ (.fr d :: r) = (datas μ r).map (.list d :: ·) := by
  simp only [datas, drf]
  cases datas μ r <;> rfl
@[simp] theorem blsOf_mapf {α : Type} (p : α → Bool) (l : List α) : blsOf (l.map fun x => .bool (p x)) = some (l.map p) := by
  induction l with
  | nil => rfl
  | cons a l ih => simp [blsOf, ih]
@[simp] theorem strsOf_mapf {α : Type} (p : α → Str) (l : List α) : strsOf (l.map fun x => .str (p x)) = some (l.map p) := by
  induction l with
  | nil => rfl
  | cons a l ih => simp [strsOf, ih]
@[simp] theorem intsOf_mapf {α : Type} (p : α → Int) (l : List α) : intsOf (l.map fun x => .int (p x)) = some (l.map p) := by
  induction l with
  | nil => rfl
  | cons a l ih => simp [intsOf, ih]
theorem inStr_one (c : Nat) (x : Str) : inStr ⟨#[c]⟩ x = decide (c ∈ x.cps.toList) := StrLaws.found_one x c
/-- a comprehension that changes nothing -/
theorem lc1 {i : Nat} {f : Ro → Mu → Rs Vl} {ρ : Ro} {μ : Mu} (h : D → D) : ∀ (ds : List D), (∀ d ∈ ds, f (ρ.set i (some (.dt d))) μ = .ok (.dt (h d)) μ) → lcL [i] none f ρ ds μ = .ok (ds.map h) μ
  | [], _ => rfl
  | d :: ds, H => by
    simp only [lcL, bindT, bind_ok, H d (List.mem_cons_self ..), data_dt, if_true]
    rw [lc1 h ds fun e he => H e (List.mem_cons_of_mem _ he)]
    rfl
theorem lcf1 {i : Nat} {c : Ro → Mu → Rs Bool} {f : Ro → Mu → Rs Vl} {ρ : Ro} {μ : Mu} (p : D → Bool) (h : D → D) : ∀ (ds : List D), (∀ d ∈ ds, c (ρ.set i (some (.dt d))) μ = .ok (p d) μ ∧ (p d = true → f (ρ.set i (some (.dt d))) μ = .ok (.dt (h d)) μ)) →
    lcL [i] (some c) f ρ ds μ = .ok ((ds.filter p).map h) μ
  | [], _ => rfl
  | d :: ds, H => by
    obtain ⟨h1, h2⟩ := H d (List.mem_cons_self ..)
    simp only [lcL, bindT, h1, bind_ok]
    have ih := lcf1 p h ds fun e he => H e (List.mem_cons_of_mem _ he)
    cases hp : p d with
    | true => simp [h2 hp, List.filter_cons, hp, ih]
    | false => simp [List.filter_cons, hp, ih]
theorem lcm {α : Type} {i : Nat} {f : Ro → Mu → Rs Vl} {ρ : Ro} {μ : Mu} (g h : α → D) : ∀ (l : List α), (∀ a ∈ l, f (ρ.set i (some (.dt (g a)))) μ = .ok (.dt (h a)) μ) → lcL [i] none f ρ (l.map g) μ = .ok (l.map h) μ
  | [], _ => rfl
  | d :: ds, H => by
    simp only [List.map_cons, lcL, bindT, bind_ok, H d (List.mem_cons_self ..), data_dt, if_true]
    rw [lcm g h ds fun e he => H e (List.mem_cons_of_mem _ he)]
    rfl
theorem lcfm {α : Type} {i : Nat} {c : Ro → Mu → Rs Bool} {f : Ro → Mu → Rs Vl} {ρ : Ro} {μ : Mu} (g : α → D) (p : α → Bool) (h : α → D) : ∀ (l : List α), (∀ a ∈ l, c (ρ.set i (some (.dt (g a)))) μ = .ok (p a) μ ∧ (p a = true → f (ρ.set i (some (.dt (g a)))) μ = .ok (.dt (h a)) μ)) →
    lcL [i] (some c) f ρ (l.map g) μ = .ok ((l.filter p).map h) μ
  | [], _ => rfl
  | d :: ds, H => by
    obtain ⟨h1, h2⟩ := H d (List.mem_cons_self ..)
    simp only [List.map_cons, lcL, bindT, h1, bind_ok]
    have ih := lcfm g p h ds fun e he => H e (List.mem_cons_of_mem _ he)
    cases hp : p d with
    | true => simp [h2 hp, List.filter_cons, hp, ih]
    | false => simp [List.filter_cons, hp, ih]
/-- a loop that is never left: I holds at each turn's start -/
theorem for_inv {ts : List Nat} {body : Ro → Mu → RS} (I : Ro → Mu → Prop) : ∀ (ds : List D) (ρ : Ro) (μ : Mu), I ρ μ → (∀ d ∈ ds, ∀ ρ μ, I ρ μ → ∃ ρ1 ρ2 μ2, bindT ts d ρ = some ρ1 ∧ (body ρ1 μ = .nx ρ2 μ2 ∨ body ρ1 μ = .ct ρ2 μ2) ∧ I ρ2 μ2) → ∃ ρ' μ', forL ts body ds ρ μ = .nx ρ' μ' ∧ I ρ' μ'
  | [], ρ, μ, h, _ => ⟨ρ, μ, rfl, h⟩
  | d :: ds, ρ, μ, h, H => by
    obtain ⟨ρ1, ρ2, μ2, h1, h2, h3⟩ := H d (List.mem_cons_self ..) ρ μ h
    obtain ⟨ρ', μ', h4, h5⟩ := for_inv I ds ρ2 μ2 h3 fun e he => H e (List.mem_cons_of_mem _ he)
    refine ⟨ρ', μ', ?_, h5⟩
    rcases h2 with h2 | h2 <;> simp [forL, h1, h2, h4]
/-- a loop by its turns' states: f is a turn -/
theorem for_fold {i : Nat} {body : Ro → Mu → RS} {α : Type} (S : α → Ro → Mu → Prop) (f : α → D → α) : ∀ (ds : List D) (a : α) (ρ : Ro) (μ : Mu), S a ρ μ → (∀ d ∈ ds, ∀ a ρ μ, S a ρ μ → ∃ ρ2 μ2, (body (ρ.set i (some (.dt d))) μ = .nx ρ2 μ2 ∨ body (ρ.set i (some (.dt d))) μ = .ct ρ2 μ2) ∧ S (f a d) ρ2 μ2) →
    ∃ ρ' μ', forL [i] body ds ρ μ = .nx ρ' μ' ∧ S (ds.foldl f a) ρ' μ'
  | [], a, ρ, μ, h, _ => ⟨ρ, μ, rfl, h⟩
  | d :: ds, a, ρ, μ, h, H => by
    obtain ⟨ρ2, μ2, h2, h3⟩ := H d (List.mem_cons_self ..) a ρ μ h
    obtain ⟨ρ', μ', h4, h5⟩ := for_fold S f ds (f a d) ρ2 μ2 h3 fun e he => H e (List.mem_cons_of_mem _ he)
    refine ⟨ρ', μ', ?_, h5⟩
    rcases h2 with h2 | h2 <;> simp [forL, bindT, h2, h4]
/-- a while loop: a measure falls -/
theorem whl_inv {c : Ro → Mu → Rs Bool} {body : Ro → Mu → RS} (I : Nat → Ro → Mu → Prop) : ∀ (n F : Nat) (ρ : Ro) (μ : Mu), n < F → I n ρ μ → (∀ n ρ μ, I n ρ μ → (c ρ μ = .ok false μ ∧ n = 0) ∨ (c ρ μ = .ok true μ ∧ ∃ m ρ2 μ2, n = m + 1 ∧ (body ρ μ = .nx ρ2 μ2 ∨ body ρ μ = .ct ρ2 μ2) ∧ I m ρ2 μ2)) → ∃ ρ' μ', whlL c body F ρ μ = .nx ρ' μ' ∧ I 0 ρ' μ'
  | n, 0, _, _, h, _, _ => by omega
  | n, F + 1, ρ, μ, hF, h, H => by
    rcases H n ρ μ h with ⟨h1, rfl⟩ | ⟨h1, m, ρ2, μ2, rfl, h2, h3⟩
    · exact ⟨ρ, μ, by simp [whlL, h1], h⟩
    · obtain ⟨ρ', μ', h4, h5⟩ := whl_inv I m F ρ2 μ2 (by omega) h3 H
      refine ⟨ρ', μ', ?_, h5⟩
      rcases h2 with h2 | h2 <;> simp [whlL, h1, h2, h4]
end TL
/-! T21: the operations at data of known form -/
namespace TL
open PySem PySem.Spec L2
set_option autoImplicit false
/-- may be laid: texts of good signs -/
abbrev Shp (d : D) : Prop := SeqAt.shaped d = true
@[simp] theorem shp_none : SeqAt.shaped .none = true := by decide
@[simp] theorem shp_bool (b : Bool) : SeqAt.shaped (.bool b) = true := by cases b <;> decide
@[simp] theorem shp_int (i : Int) : SeqAt.shaped (.int i) = true := by simp [SeqAt.shaped, PyData.canLay0, PyData.depth]
theorem shp_str (x : Str) : SeqAt.shaped (.str x) = PyData.strOk x := by simp [SeqAt.shaped, PyData.canLay0, PyData.depth]
theorem cl_all : ∀ l : List D, PyData.canLayAll0 l = l.all PyData.canLay0
  | [] => by simp [PyData.canLayAll0]
  | a :: l => by simp [PyData.canLayAll0, cl_all l]
theorem dp_all : ∀ (l : List D) (n : Nat), (∀ d ∈ l, d.depth ≤ n) → PyData.depthAll l ≤ n
  | [], n, _ => by simp [PyData.depthAll]
  | a :: l, n, h => by
    simp only [PyData.depthAll, Nat.max_le]
    exact ⟨h a (List.mem_cons_self ..), dp_all l n fun d hd => h d (List.mem_cons_of_mem _ hd)⟩
/-- flat data: no deeper than n -/
def Flat (n : Nat) (d : D) : Prop := d.canLay0 = true ∧ d.depth ≤ n
theorem Flat.shp {n : Nat} {d : D} (h : Flat n d) (hn : n ≤ 64) : SeqAt.shaped d = true := by
  unfold SeqAt.shaped
  rw [h.1, Bool.true_and]
  exact decide_eq_true (Nat.le_trans h.2 hn)
theorem flat_list {n : Nat} {l : List D} (h : ∀ d ∈ l, Flat n d) : Flat (n + 1) (.list l) := by
  refine ⟨?_, ?_⟩
  · simp only [PyData.canLay0, cl_all, List.all_eq_true]
    exact fun d hd => (h d hd).1
  · simp only [PyData.depth]
    exact Nat.succ_le_succ (dp_all l n fun d hd => (h d hd).2)
theorem flat_tuple {n : Nat} {l : List D} (h : ∀ d ∈ l, Flat n d) : Flat (n + 1) (.tuple l) := by
  refine ⟨?_, ?_⟩
  · simp only [PyData.canLay0, cl_all, List.all_eq_true]
    exact fun d hd => (h d hd).1
  · simp only [PyData.depth]
    exact Nat.succ_le_succ (dp_all l n fun d hd => (h d hd).2)
theorem flat_int (i : Int) : Flat 0 (.int i) := ⟨by simp [PyData.canLay0], by simp [PyData.depth]⟩
theorem flat_bool (i : Bool) : Flat 0 (.bool i) := ⟨by simp [PyData.canLay0], by simp [PyData.depth]⟩
theorem flat_none : Flat 0 .none := ⟨by simp [PyData.canLay0], by simp [PyData.depth]⟩
theorem Flat.up {n m : Nat} {d : D} (h : Flat n d) (hn : n ≤ m) : Flat m d := ⟨h.1, Nat.le_trans h.2 hn⟩
theorem strOk_of {l : List Nat} (h : ∀ c ∈ l, c < 128) : PyData.strOk (Tx l) = true := by
  unfold PyData.strOk
  simp
  intro c hc
  have := h c hc
  omega
theorem flat_str {l : List Nat} (h : ∀ c ∈ l, c < 128) : Flat 0 (.str (Tx l)) := ⟨by simp [PyData.canLay0, strOk_of h], by simp [PyData.depth]⟩
section
variable (i j : Int) (x y : Str) (b c : Bool) (a d : D) (xs ys : List D)
@[simp] theorem cm_lt : cmpF .Lt (.int i) (.int j) = some (decide (i < j)) := rfl
@[simp] theorem cm_le : cmpF .LtE (.int i) (.int j) = some (decide (i ≤ j)) := rfl
@[simp] theorem cm_gt : cmpF .Gt (.int i) (.int j) = some (decide (j < i)) := rfl
@[simp] theorem cm_ge : cmpF .GtE (.int i) (.int j) = some (decide (j ≤ i)) := rfl
theorem okEq_of {a d : D} (h1 : SeqAt.shaped a = true) (h2 : SeqAt.shaped d = true) : okEq a d = true := by
  unfold okEq
  split
  · rfl
  · rw [h1, h2]; rfl
theorem cm_eq0 (h : okEq a d = true) : cmpF .Eq a d = some (PyData.eqv a d) := by
  have e : cmpF .Eq a d = if okEq a d = true then some (PyData.eqv a d) else none := rfl
  rw [e, if_pos h]
theorem cm_ne0 (h : okEq a d = true) : cmpF .NotEq a d = some (!PyData.eqv a d) := by
  have e : cmpF .NotEq a d = if okEq a d = true then some (!PyData.eqv a d) else none := rfl
  rw [e, if_pos h]
@[simp] theorem cm_eqi : cmpF .Eq (.int i) (.int j) = some (decide (i = j)) := by
  rw [cm_eq0 _ _ (okEq_of (shp_int i) (shp_int j))]; simp only [PyData.eqv]; congr 1
@[simp] theorem cm_nei : cmpF .NotEq (.int i) (.int j) = some (!decide (i = j)) := by
  rw [cm_ne0 _ _ (okEq_of (shp_int i) (shp_int j))]; simp only [PyData.eqv]; congr 1
@[simp] theorem cm_eqb : cmpF .Eq (.bool b) (.bool c) = some (b == c) := by
  rw [cm_eq0 _ _ (okEq_of (shp_bool b) (shp_bool c))]; simp only [PyData.eqv]
@[simp] theorem cm_neb : cmpF .NotEq (.bool b) (.bool c) = some (!(b == c)) := by
  rw [cm_ne0 _ _ (okEq_of (shp_bool b) (shp_bool c))]; simp only [PyData.eqv]
@[simp] theorem cm_eqs : cmpF .Eq (.str x) (.str y) = some (x == y) := by
  rw [cm_eq0 _ _ rfl]; simp only [PyData.eqv]
@[simp] theorem cm_nes : cmpF .NotEq (.str x) (.str y) = some (!(x == y)) := by
  rw [cm_ne0 _ _ rfl]; simp only [PyData.eqv]
theorem cm_eq {n : Nat} (hx : Flat n a) (hy : Flat n d) (hn : n ≤ 64) : cmpF .Eq a d = some (PyData.eqv a d) := cm_eq0 _ _ (okEq_of (hx.shp hn) (hy.shp hn))
theorem cm_ne {n : Nat} (hx : Flat n a) (hy : Flat n d) (hn : n ≤ 64) : cmpF .NotEq a d = some (!PyData.eqv a d) := cm_ne0 _ _ (okEq_of (hx.shp hn) (hy.shp hn))
@[simp] theorem cm_ltt (i1 i2 j1 j2 : Int) : cmpF .Lt (.tuple [.int i1, .int i2]) (.tuple [.int j1, .int j2]) = some (HT.lexLt [i1, i2] [j1, j2]) := rfl
@[simp] theorem cm_ins : cmpF .In (.str x) (.str y) = some (inStr x y) := rfl
@[simp] theorem cm_nis : cmpF .NotIn (.str x) (.str y) = some (!inStr x y) := rfl
@[simp] theorem bn_addi : binF .Add (.int i) (.int j) = some (.dt (.int (i + j))) := rfl
@[simp] theorem bn_subi : binF .Sub (.int i) (.int j) = some (.dt (.int (i - j))) := rfl
theorem bn_adds (h : x.length + y.length ≤ sizeLine) : binF .Add (.str x) (.str y) = some (.dt (.str (x ++ y))) := if_pos h
theorem bn_addl (h : xs.length + ys.length ≤ sizeLine) : binF .Add (.list xs) (.list ys) = some (.fr (xs ++ ys)) := if_pos h
theorem bn_addt (h : xs.length + ys.length ≤ sizeLine) : binF .Add (.tuple xs) (.tuple ys) = some (.dt (.tuple (xs ++ ys))) := if_pos h
theorem bn_mul (h : (-(2 ^ 64) < i ∧ i < 2 ^ 64) ∨ (-(2 ^ 64) < j ∧ j < 2 ^ 64)) : binF .Mult (.int i) (.int j) = some (.dt (.int (i * j))) := if_pos h
theorem bn_div (h : 0 < j ∧ j < 1073741824) : binF .FloorDiv (.int i) (.int j) = some (.dt (.int (i / j))) := if_pos h
theorem bn_mod (h : 0 < j) : binF .Mod (.int i) (.int j) = some (.dt (.int (i % j))) := if_pos h
@[simp] theorem tr_b (μ : Mu) : truV μ (.dt (.bool b)) = some b := rfl
@[simp] theorem tr_n (μ : Mu) : truV μ (.dt .none) = some false := rfl
@[simp] theorem tr_l (μ : Mu) : truV μ (.dt (.list xs)) = some (!xs.isEmpty) := rfl
@[simp] theorem tr_f (μ : Mu) : truV μ (.fr xs) = some (!xs.isEmpty) := rfl
@[simp] theorem tr_t (μ : Mu) : truV μ (.dt (.tuple xs)) = some (!xs.isEmpty) := rfl
@[simp] theorem ty_int_int : isiF "int" (.int i) = some true := by simp [isiF, tyD]; decide +kernel
@[simp] theorem ty_bool_int : isiF "bool" (.int i) = some false := by simp [isiF, tyD]; decide +kernel
@[simp] theorem ty_tuple_int : isiF "tuple" (.int i) = some false := by simp [isiF, tyD]; decide +kernel
@[simp] theorem ty_str_int : isiF "str" (.int i) = some false := by simp [isiF, tyD]; decide +kernel
@[simp] theorem ty_list_int : isiF "list" (.int i) = some false := by simp [isiF, tyD]; decide +kernel
@[simp] theorem ty_int_bool : isiF "int" (.bool b) = some true := by simp [isiF, tyD]; decide +kernel
@[simp] theorem ty_bool_bool : isiF "bool" (.bool b) = some true := by simp [isiF, tyD]; decide +kernel
@[simp] theorem ty_tuple_bool : isiF "tuple" (.bool b) = some false := by simp [isiF, tyD]; decide +kernel
@[simp] theorem ty_str_bool : isiF "str" (.bool b) = some false := by simp [isiF, tyD]; decide +kernel
@[simp] theorem ty_int_str : isiF "int" (.str x) = some false := by simp [isiF, tyD]; decide +kernel
@[simp] theorem ty_bool_str : isiF "bool" (.str x) = some false := by simp [isiF, tyD]; decide +kernel
@[simp] theorem ty_tuple_str : isiF "tuple" (.str x) = some false := by simp [isiF, tyD]; decide +kernel
@[simp] theorem ty_str_str : isiF "str" (.str x) = some true := by simp [isiF, tyD]; decide +kernel
@[simp] theorem ty_list_str : isiF "list" (.str x) = some false := by simp [isiF, tyD]; decide +kernel
@[simp] theorem ty_int_tuple : isiF "int" (.tuple xs) = some false := by simp [isiF, tyD]; decide +kernel
@[simp] theorem ty_bool_tuple : isiF "bool" (.tuple xs) = some false := by simp [isiF, tyD]; decide +kernel
@[simp] theorem ty_tuple_tuple : isiF "tuple" (.tuple xs) = some true := by simp [isiF, tyD]; decide +kernel
@[simp] theorem ty_str_tuple : isiF "str" (.tuple xs) = some false := by simp [isiF, tyD]; decide +kernel
@[simp] theorem ty_list_tuple : isiF "list" (.tuple xs) = some false := by simp [isiF, tyD]; decide +kernel
@[simp] theorem ty_int_list : isiF "int" (.list xs) = some false := by simp [isiF, tyD]; decide +kernel
@[simp] theorem ty_tuple_list : isiF "tuple" (.list xs) = some false := by simp [isiF, tyD]; decide +kernel
@[simp] theorem ty_str_list : isiF "str" (.list xs) = some false := by simp [isiF, tyD]; decide +kernel
@[simp] theorem ty_list_list : isiF "list" (.list xs) = some true := by simp [isiF, tyD]; decide +kernel
@[simp] theorem ty_bool_list : isiF "bool" (.list xs) = some false := by simp [isiF, tyD]; decide +kernel
@[simp] theorem ln_l : lenF (.list xs) = some (xs.length : Int) := rfl
@[simp] theorem ln_t : lenF (.tuple xs) = some (xs.length : Int) := rfl
theorem ln_s (h : x.length ≤ sizeLine) : lenF (.str x) = some (x.length : Int) := if_pos h
@[simp] theorem ix_l : idxF (.list xs) (.int i) = atI xs i := rfl
@[simp] theorem ix_t : idxF (.tuple xs) (.int i) = atI xs i := rfl
theorem ix_s (h : x.length ≤ sizeLine) : idxF (.str x) (.int i) = (atI x.cps.toList i).map fun c => .str ⟨#[c]⟩ := if_pos h
@[simp] theorem bi_all : biF .all [.list xs] = (blsOf xs).map fun bs => .dt (.bool (bs.all id)) := rfl
@[simp] theorem bi_any : biF .any [.list xs] = (blsOf xs).map fun bs => .dt (.bool (bs.any id)) := rfl
@[simp] theorem bi_tupl : biF .tuple [.list xs] = some (.dt (.tuple xs)) := rfl
@[simp] theorem bi_tupt : biF .tuple [.tuple xs] = some (.dt (.tuple xs)) := rfl
@[simp] theorem bi_listl : biF .list [.list xs] = some (.fr xs) := rfl
@[simp] theorem bi_listt : biF .list [.tuple xs] = some (.fr xs) := rfl
theorem bi_lists (h : x.length ≤ 1000) : biF .list [.str x] = some (.fr (signs x)) := if_pos h
@[simp] theorem bi_abs : biF .abs [.int i] = some (.dt (.int (if i < 0 then -i else i))) := rfl
@[simp] theorem bi_max : biF .max [.int i, .int j] = some (.dt (.int (if j > i then j else i))) := rfl
@[simp] theorem bi_min : biF .min [.int i, .int j] = some (.dt (.int (if j < i then j else i))) := rfl
@[simp] theorem bi_int : biF .int [.int i] = some (.dt (.int i)) := rfl
theorem bi_dm (h : 0 < j ∧ j < 1073741824) : biF .divmod [.int i, .int j] = some (.dt (.tuple [.int (i / j), .int (i % j)])) := if_pos h
@[simp] theorem it_l : itemsOf (.dt (.list xs)) = some xs := rfl
@[simp] theorem it_f : itemsOf (.fr xs) = some xs := rfl
@[simp] theorem it_t : itemsOf (.dt (.tuple xs)) = some xs := rfl
@[simp] theorem it_s : itemsOf (.dt (.str x)) = some (signs x) := rfl
@[simp] theorem sl_l (lo hi : Option Int) : slcF (.list xs) lo hi = some (.fr (cutD xs lo hi)) := rfl
@[simp] theorem sl_t (lo hi : Option Int) : slcF (.tuple xs) lo hi = some (.dt (.tuple (cutD xs lo hi))) := rfl
theorem sl_s (lo hi : Option Int) (h : x.length ≤ sizeLine) : slcF (.str x) lo hi = some (.dt (.str (cutS x lo hi))) := if_pos h
theorem rg_1 (h : 0 ≤ j ∧ j < 2 ^ 62) : rngF [.int j] = some (rangeL 0 j.toNat) := if_pos ⟨by omega, h.2⟩
theorem rg_2 (h : -(2 ^ 62) ≤ i ∧ i < 2 ^ 62 ∧ -(2 ^ 62) ≤ j ∧ j < 2 ^ 62) : rngF [.int i, .int j] = some (rangeL i (j - i).toNat) := if_pos h
end
theorem szl {n : Nat} (h : n ≤ 100000) : (sizeLine < n) = False := by
  have := sizeLine_eq
  simp only [eq_iff_iff, iff_false]
  omega
theorem szn {n : Nat} (h : n ≤ 100000) : ¬ sizeLine < n := by
  rw [szl h]; exact fun h => h
theorem at_nat {α : Type} (xs : List α) (i : Nat) : atI xs (i : Int) = xs[i]? := by
  unfold atI ixN
  by_cases h : i < xs.length
  · rw [if_pos (by omega), if_pos (by omega)]
    simp
  · rw [if_pos (by omega), if_neg (by omega)]
    rw [List.getElem?_eq_none (by omega)]
    rfl
@[simp] theorem at_0 {α : Type} (x : α) (xs : List α) : atI (x :: xs) 0 = some x := at_nat (x :: xs) 0
@[simp] theorem at_1 {α : Type} (x y : α) (xs : List α) : atI (x :: y :: xs) 1 = some y := at_nat (x :: y :: xs) 1
@[simp] theorem at_2 {α : Type} (x y z : α) (xs : List α) : atI (x :: y :: z :: xs) 2 = some z := at_nat (x :: y :: z :: xs) 2
end TL
/-! T22: the evaluator's equations, what follows held back by names until its turn comes -/
namespace TL
open PySem PySem.Spec L2
set_option autoImplicit false
abbrev Tb := Str → Option (List Vl → Mu → Rs Vl)
abbrev Gm := Str → Option D
def getV (o : Option (Option Vl)) (μ : Mu) : Rs Vl := match o with
  | some (some x) => .ok x μ
  | _ => .bad
@[simp] theorem getV_ok (x : Vl) (μ : Mu) : getV (some (some x)) μ = .ok x μ := rfl
def bO {α β : Type} (f : D → D → Option α) (g : α → β) (a b : Option D) (μ : Mu) : Rs β := match a, b with
  | some d, some e => Rs.of ((f d e).map g) μ
  | _, _ => .bad
@[simp] theorem bO_ok {α β : Type} (f : D → D → Option α) (g : α → β) (d e : D) (μ : Mu) : bO f g (some d) (some e) μ = Rs.of ((f d e).map g) μ := by unfold bO; exact id rfl
def uO {β : Type} (f : D → Option β) (a : Option D) (μ : Mu) : Rs β := match a with
  | some d => Rs.of (f d) μ
  | none => .bad
@[simp] theorem uO_ok {β : Type} (f : D → Option β) (d : D) (μ : Mu) : uO f (some d) μ = Rs.of (f d) μ := by unfold uO; exact id rfl
def uL {β : Type} (f : List D → Option β) (a : Option (List D)) (μ : Mu) : Rs β := match a with
  | some d => Rs.of (f d) μ
  | none => .bad
@[simp] theorem uL_ok {β : Type} (f : List D → Option β) (d : List D) (μ : Mu) : uL f (some d) μ = Rs.of (f d) μ := by unfold uL; exact id rfl
abbrev bD (b : Bool) : Vl := .dt (.bool b)
section
variable (R : Tb) (γ : Gm)
def kB2 (op : Operator) (x y : Vl) (μ : Mu) : Rs Vl := bO (binF op) id (drf μ x) (drf μ y) μ
def kB1 (op : Operator) (b : E) (ρ : Ro) (x : Vl) (μ : Mu) : Rs Vl := (ev R γ b ρ μ).bind (kB2 op x)
def kN (x : Vl) (μ : Mu) : Rs Vl := match x with
  | .dt (.int i) => .ok (.dt (.int (-i))) μ
  | _ => .bad
def kNot (x : Vl) (μ : Mu) : Rs Vl := Rs.of ((truV μ x).map fun b => .dt (.bool (!b))) μ
def kC2 (op : CmpOp) (x y : Vl) (μ : Mu) : Rs Vl := bO (cmpF op) bD (drf μ x) (drf μ y) μ
def kC1 (op : CmpOp) (b : E) (ρ : Ro) (x : Vl) (μ : Mu) : Rs Vl := (ev R γ b ρ μ).bind (kC2 op x)
def kH4 (op : CmpOp) (y z : Vl) (μ : Mu) : Rs Vl := bO (cmpF op) bD (drf μ y) (drf μ z) μ
def kH3 (op : CmpOp) (c : E) (ρ : Ro) (y : Vl) (k : Bool) (μ : Mu) : Rs Vl := if k = true then (ev R γ c ρ μ).bind (kH4 op y) else .ok (.dt (.bool false)) μ
def kH2 (o1 o2 : CmpOp) (c : E) (ρ : Ro) (x y : Vl) (μ : Mu) : Rs Vl := (bO (cmpF o1) id (drf μ x) (drf μ y) μ).bind (kH3 R γ o2 c ρ y)
def kH1 (o1 o2 : CmpOp) (b c : E) (ρ : Ro) (x : Vl) (μ : Mu) : Rs Vl := (ev R γ b ρ μ).bind (kH2 R γ o1 o2 c ρ x)
def kI2 (a b : E) (ρ : Ro) (k : Bool) (μ : Mu) : Rs Vl := if k = true then ev R γ a ρ μ else ev R γ b ρ μ
def kI1 (a b : E) (ρ : Ro) (x : Vl) (μ : Mu) : Rs Vl := (Rs.of (truV μ x) μ).bind (kI2 R γ a b ρ)
def kTup (xs : List Vl) (μ : Mu) : Rs Vl := Rs.of ((datas [] (xs.map Vl.fz)).map fun ds => .dt (.tuple ds)) μ
def kLst (xs : List Vl) (μ : Mu) : Rs Vl := Rs.of ((datas [] (xs.map Vl.fz)).map fun ds => .fr ds) μ
def kX2 (x y : Vl) (μ : Mu) : Rs Vl := match x, y with
  | .scr ns, .dt (.int j) => Rs.of ((atI ns j).map fun k => .dt (.int k)) μ
  | _, _ => match drf μ x, drf μ y with
    | some d, some e => Rs.of ((idxF d e).map .dt) μ
    | _, _ => .bad
def kX1 (i : E) (ρ : Ro) (x : Vl) (μ : Mu) : Rs Vl := (ev R γ i ρ μ).bind (kX2 x)
def kV3 (x : Vl) (l h : Option Int) (μ : Mu) : Rs Vl := uO (fun d => rvF d l h) (drf μ x) μ
def kV2 (hi : E) (ρ : Ro) (x : Vl) (l : Option Int) (μ : Mu) : Rs Vl := (evP R γ hi ρ μ).bind (kV3 x l)
def kV1 (lo hi : E) (ρ : Ro) (x : Vl) (μ : Mu) : Rs Vl := (evP R γ lo ρ μ).bind (kV2 R γ hi ρ x)
def kS3 (x : Vl) (l h : Option Int) (μ : Mu) : Rs Vl := uO (fun d => slcF d l h) (drf μ x) μ
def kS2 (hi : E) (ρ : Ro) (x : Vl) (l : Option Int) (μ : Mu) : Rs Vl := (evP R γ hi ρ μ).bind (kS3 x l)
def kS1 (lo hi : E) (ρ : Ro) (x : Vl) (μ : Mu) : Rs Vl := (evP R γ lo ρ μ).bind (kS2 R γ hi ρ x)
def kR (x : Vl) (μ : Mu) : Rs Vl := uO revF (drf μ x) μ
def kFr (xs : List D) (μ : Mu) : Rs Vl := Rs.ok (.fr xs) μ
def qE (e : E) (ρ : Ro) (μ : Mu) : Rs Vl := (ev R γ e ρ μ).q
def qB (e : E) (ρ : Ro) (μ : Mu) : Rs Bool := (evB R γ e ρ μ).q
def kL (ts : List Nat) (elt : E) (ρ : Ro) (ds : List D) (μ : Mu) : Rs Vl := if sizeLine < ds.length then .bad else (lcL ts none (qE R γ elt) ρ ds μ).bind kFr
def kLf (ts : List Nat) (c elt : E) (ρ : Ro) (ds : List D) (μ : Mu) : Rs Vl := if sizeLine < ds.length then .bad else (lcL ts (some (qB R γ c)) (qE R γ elt) ρ ds μ).bind kFr
def kLen (x : Vl) (μ : Mu) : Rs Vl := match x with
  | .scr ns => .ok (.dt (.int ns.length)) μ
  | _ => uO (fun d => (lenF d).map fun n => .dt (.int n)) (drf μ x) μ
def kBi (b : Bi) (xs : List Vl) (μ : Mu) : Rs Vl := uL (biF b) (datas μ xs) μ
def kIs (T : String) (x : Vl) (μ : Mu) : Rs Vl := uO (fun d => (isiF T d).map bD) (drf μ x) μ
def kM2 (m : Mt) (x : Vl) (xs : List Vl) (μ : Mu) : Rs Vl := match drf μ x, datas μ xs with
  | some d, some ds => Rs.of (mtF m d ds) μ
  | _, _ => .bad
def kM1 (m : Mt) (es : E) (ρ : Ro) (x : Vl) (μ : Mu) : Rs Vl := if isT m μ x = false then .bad else (evL R γ es ρ μ).bind (kM2 m x)
def kApp2 (x y : Vl) (μ2 : Mu) : Rs Vl := match x, y.data with
    | .hd n, some d => match μ2[n]? with
      | some (some (.lst xs)) => if xs.length < sizeLine then .ok (.dt .none) (μ2.set n (some (.lst (xs ++ [d])))) else .bad
      | _ => .bad
    | _, _ => .bad
def kApp1 (e : E) (ρ : Ro) (x : Vl) (μ : Mu) : Rs Vl := if isL μ x = false then .bad else (ev R γ e ρ μ).bind (kApp2 x)
def kExt2 (x y : Vl) (μ2 : Mu) : Rs Vl := match x, y.data with
    | .hd n, some (.list ds) => match μ2[n]? with
      | some (some (.lst xs)) => if xs.length + ds.length ≤ sizeLine then .ok (.dt .none) (μ2.set n (some (.lst (xs ++ ds)))) else .bad
      | _ => .bad
    | _, _ => .bad
def kExt1 (e : E) (ρ : Ro) (x : Vl) (μ : Mu) : Rs Vl := if isL μ x = false then .bad else (ev R γ e ρ μ).bind (kExt2 x)
def kPop (x : Vl) (μ1 : Mu) : Rs Vl := match x with
    | .hd n => match μ1[n]? with
      | some (some (.lst xs)) => match xs[xs.length - 1]? with
        | some d => .ok (.dt d) (μ1.set n (some (.lst xs.dropLast)))
        | none => .bad
      | _ => .bad
    | _ => .bad
def kPat2 (x y : Vl) (μ2 : Mu) : Rs Vl := match x, y with
    | .hd n, .dt (.int j) => match μ2[n]? with
      | some (some (.lst xs)) => if 0 ≤ j ∧ j < 2 ^ 63 then match xs[j.toNat]? with
        | some d => .ok (.dt d) (μ2.set n (some (.lst (xs.eraseIdx j.toNat))))
        | none => .bad
        else .bad
      | _ => .bad
    | _, _ => .bad
def kPat1 (e : E) (ρ : Ro) (x : Vl) (μ : Mu) : Rs Vl := if isL μ x = false then .bad else (ev R γ e ρ μ).bind (kPat2 x)
def kE2 (x : Vl) (xs : List Vl) (μ : Mu) : Rs (List Vl) := Rs.ok (x :: xs) μ
def kE1 (es : E) (ρ : Ro) (x : Vl) (μ : Mu) : Rs (List Vl) := (evL R γ es ρ μ).bind (kE2 x)
def kP (x : Vl) (μ : Mu) : Rs (Option Int) := match x with
    | .dt (.int i) => .ok (some i) μ
    | _ => .bad
def kRg (xs : List Vl) (μ : Mu) : Rs (List D) := uL rngF (datas [] xs) μ
def kIv (x : Vl) (μ : Mu) : Rs (List D) := Rs.of (itemsOf x) μ
def kA2 (es : E) (ρ : Ro) (x : Vl) (k : Bool) (μ : Mu) : Rs Vl := if k = true then evAnd R γ es ρ μ else .ok x μ
def kO2 (es : E) (ρ : Ro) (x : Vl) (k : Bool) (μ : Mu) : Rs Vl := if k = true then .ok x μ else evOr R γ es ρ μ
def kA1 (es : E) (ρ : Ro) (x : Vl) (μ : Mu) : Rs Vl := if es.isNil then .ok x μ else (Rs.of (truV μ x) μ).bind (kA2 R γ es ρ x)
def kO1 (es : E) (ρ : Ro) (x : Vl) (μ : Mu) : Rs Vl := if es.isNil then .ok x μ else (Rs.of (truV μ x) μ).bind (kO2 R γ es ρ x)
def kTr (x : Vl) (μ : Mu) : Rs Bool := Rs.of (truV μ x) μ
def sAsg (m : Bool) (i : Nat) (ρ : Ro) (x : Vl) (μ1 : Mu) : RS := if m then match x with
      | .fr xs => .nx (ρ.set i (some (.hd μ1.length))) (μ1 ++ [some (.lst xs)])
      | .dt d => .nx (ρ.set i (some (.dt d))) μ1
      | _ => .bad
    else .nx (ρ.set i (some x.fz)) μ1
def sUnp (ts : List Nat) (ρ : Ro) (x : Vl) (μ1 : Mu) : RS := match x with
    | .dt d => match bindT ts d ρ with
      | some ρ1 => .nx ρ1 μ1
      | none => .bad
    | _ => .bad
def sUnpL (ts : List Nat) (ρ : Ro) (x : Vl) (μ1 : Mu) : RS := match x.data with
    | some (.list ds) => match bindT ts (.tuple ds) ρ with
      | some ρ1 => .nx ρ1 μ1
      | none => .bad
    | _ => .bad
def sSix3 (ρ : Ro) (y x j : Vl) (μ3 : Mu) : RS := match y.data with
    | some d => match setF μ3 x j d with
      | some μ4 => .nx ρ μ4
      | none => .bad
    | none => .bad
def sSix2 (i : E) (ρ : Ro) (y x : Vl) (μ : Mu) : RS := (ev R γ i ρ μ).st (sSix3 ρ y x)
def sSix1 (o i : E) (ρ : Ro) (y : Vl) (μ : Mu) : RS := (ev R γ o ρ μ).st (sSix2 R γ i ρ y)
def sExp (ρ : Ro) (_ : Vl) (μ : Mu) : RS := RS.nx ρ μ
def sRet (x : Vl) (μ : Mu) : RS := RS.rt x μ
def sRai (c : Str) (_ : Vl) (μ : Mu) : RS := RS.exc c μ
def sIte (F : Nat) (a b : S) (ρ : Ro) (k : Bool) (μ : Mu) : RS := if k = true then exec R γ F a ρ μ else exec R γ F b ρ μ
def sFor (F : Nat) (ts : List Nat) (b : S) (ρ : Ro) (ds : List D) (μ : Mu) : RS := forL ts (exec R γ F b) ds ρ μ
def kSs (x : Vl) (μ : Mu) : Rs Vl := uO stF (drf μ x) μ
def kT4 (o3 : CmpOp) (l : Int) (u : Vl) (μ : Mu) : Rs Vl := match u with
  | .dt (.int m) => Rs.of ((cmpF o3 (.int l) (.int m)).map fun b => .dt (.bool b)) μ
  | _ => .bad
def kT3 (o2 o3 : CmpOp) (d : E) (ρ : Ro) (j : Int) (z : Vl) (μ : Mu) : Rs Vl := match z with
  | .dt (.int l) => (Rs.of (cmpF o2 (.int j) (.int l)) μ).bind fun k2 μ3 => if k2 then (ev R γ d ρ μ3).bind (kT4 o3 l) else .ok (.dt (.bool false)) μ3
  | _ => .bad
def kT2 (o1 o2 o3 : CmpOp) (c d : E) (ρ : Ro) (x y : Vl) (μ : Mu) : Rs Vl := match x, y with
  | .dt (.int i), .dt (.int j) => (Rs.of (cmpF o1 (.int i) (.int j)) μ).bind fun k μ2 => if k then (ev R γ c ρ μ2).bind (kT3 R γ o2 o3 d ρ j) else .ok (.dt (.bool false)) μ2
  | _, _ => .bad
def kT1 (o1 o2 o3 : CmpOp) (b c d : E) (ρ : Ro) (x : Vl) (μ : Mu) : Rs Vl := (ev R γ b ρ μ).bind (kT2 R γ o1 o2 o3 c d ρ x)
def kLx2 (x y : Vl) (μ : Mu) : Rs Vl := match drf μ x, drf μ y with
    | some d, some e => Rs.of ((lixF d e).map fun n => .dt (.int n)) μ
    | _, _ => .bad
def kLx1 (b : E) (ρ : Ro) (x : Vl) (μ : Mu) : Rs Vl := if isLs μ x = false then .bad else (ev R γ b ρ μ).bind (kLx2 x)
def kUp (x : Vl) (μ : Mu) : Rs Vl := match drf μ x with
    | some d => Rs.of ((uppF d).map fun z => .dt (.str z)) μ
    | none => .bad
def kSk (lt : Option D) (wd : Option (Option Vl)) (x : Vl) (μ : Mu) : Rs Vl := match x, lt with
  | .dt (.int n), some lt => Rs.of (srkV n lt wd) μ
  | _, _ => .bad
def kLs (x : Vl) (μ : Mu) : Rs Vl := uO (fun d => (lsF d).map fun n => .dt (.int n)) (drf μ x) μ
def kMk (x : Vl) (μ : Mu) : Rs Vl := match x with
  | .fr xs => .ok (.hd μ.length) (μ ++ [some (.lst xs)])
  | _ => .bad
def kLr (x : Vl) (μ : Mu) : Rs Vl := match x with
  | .dt (.int j) => Rs.of (lrF 0 j) μ
  | _ => .bad
def kLr2 (x y : Vl) (μ : Mu) : Rs Vl := match x, y with
  | .dt (.int i), .dt (.int j) => Rs.of (lrF i j) μ
  | _, _ => .bad
def kLr1 (b : E) (ρ : Ro) (x : Vl) (μ : Mu) : Rs Vl := (ev R γ b ρ μ).bind (kLr2 x)
def ghF (F i : Nat) (a : S) (ρ : Ro) (μ : Mu) (o : Option (Option Vl)) : RS := match o with
  | some (some (.hd n)) => match μ[n]? with
    | some (some (.lst xs)) => exec R γ F a (ρ.set i (some (.dt (.list xs)))) (μ.set n none)
    | _ => .bad
  | _ => exec R γ F a ρ μ
def sSw6 (ρ : Ro) (b : D) (x j : Vl) (μ : Mu) : RS := match setF μ x j b with
  | some μ7 => .nx ρ μ7
  | none => .bad
def sSw5 (i2 : E) (ρ : Ro) (b : D) (x : Vl) (μ : Mu) : RS := (ev R γ i2 ρ μ).st (sSw6 ρ b x)
def sSw4 (o2 i2 : E) (ρ : Ro) (a b : D) (x j : Vl) (μ : Mu) : RS := match setF μ x j a with
  | some μ4 => (ev R γ o2 ρ μ4).st (sSw5 R γ i2 ρ b)
  | none => .bad
def sSw3 (i1 o2 i2 : E) (ρ : Ro) (a b : D) (x : Vl) (μ : Mu) : RS := (ev R γ i1 ρ μ).st (sSw4 R γ o2 i2 ρ a b x)
def sSw1 (o1 i1 o2 i2 : E) (ρ : Ro) (y : Vl) (μ : Mu) : RS := match y with
  | .dt (.tuple [a, b]) => (ev R γ o1 ρ μ).st (sSw3 R γ i1 o2 i2 ρ a b)
  | _ => .bad
variable {R γ}
section
variable {F i : Nat} {op o1 o2 : CmpOp} {bo : Operator} {a b c e es lo hi it elt o : E} {ρ : Ro} {μ : Mu} {d : D} {x : Str} {T : String} {m : Mt} {bi : Bi} {ts : List Nat} {s1 s2 : S} {md : Bool}
theorem y_var : ev R γ (.var i) ρ μ = getV ρ[i]? μ := by
  simp only [ev, getV]
  first | done | rfl
theorem y_cst : ev R γ (.cst d) ρ μ = .ok (.dt d) μ := by
  simp only [ev]
  first | done | rfl
theorem y_glb : ev R γ (.glb x) ρ μ = Rs.of ((γ x).map .dt) μ := by
  simp only [ev]
  first | done | rfl
theorem bO_id {α : Type} (f : D → D → Option α) (p q : Option D) (μ : Mu) : bO f id p q μ = match p, q with
  | some d, some e => Rs.of (f d e) μ
  | _, _ => .bad := by
  unfold bO
  split <;> simp
theorem y_bin : ev R γ (.bin bo a b) ρ μ = (ev R γ a ρ μ).bind (kB1 R γ bo b ρ) := by
  simp only [ev]
  congr 1
  funext x μ1
  unfold kB1
  congr 1
  funext y μ2
  unfold kB2
  rw [bO_id]
  all_goals rfl
theorem y_neg : ev R γ (.neg a) ρ μ = (ev R γ a ρ μ).bind kN := by
  simp only [ev]
  first | done | rfl
theorem y_not : ev R γ (.not a) ρ μ = (ev R γ a ρ μ).bind kNot := by
  simp only [ev]
  first | done | rfl
theorem y_cmp : ev R γ (.cmp op a b) ρ μ = (ev R γ a ρ μ).bind (kC1 R γ op b ρ) := by
  simp only [ev]
  first | done | rfl
theorem y_chn : ev R γ (.chn o1 o2 a b c) ρ μ = (ev R γ a ρ μ).bind (kH1 R γ o1 o2 b c ρ) := by
  simp only [ev]
  congr 1
  funext x μ1
  unfold kH1
  congr 1
  funext y μ2
  unfold kH2
  rw [bO_id]
  cases drf μ2 x with
  | none => rfl
  | some d =>
    cases drf μ2 y with
    | none => rfl
    | some e => rfl
theorem y_and : ev R γ (.and es) ρ μ = evAnd R γ es ρ μ := by
  simp only [ev]
  first | done | rfl
theorem y_or : ev R γ (.or es) ρ μ = evOr R γ es ρ μ := by
  simp only [ev]
  first | done | rfl
theorem y_ife : ev R γ (.ife c a b) ρ μ = (ev R γ c ρ μ).bind (kI1 R γ a b ρ) := by
  simp only [ev]
  first | done | rfl
theorem y_tup : ev R γ (.tup es) ρ μ = (evL R γ es ρ μ).bind kTup := by
  simp only [ev]
  first | done | rfl
theorem y_lst : ev R γ (.lst es) ρ μ = (evL R γ es ρ μ).bind kLst := by
  simp only [ev]
  first | done | rfl
theorem y_idx : ev R γ (.idx a b) ρ μ = (ev R γ a ρ μ).bind (kX1 R γ b ρ) := by
  simp only [ev]
  first | done | rfl
theorem y_slc : ev R γ (.slc a lo hi) ρ μ = (ev R γ a ρ μ).bind (kS1 R γ lo hi ρ) := by
  simp only [ev]
  first | done | rfl
theorem y_rvs : ev R γ (.rvs a lo hi) ρ μ = (ev R γ a ρ μ).bind (kV1 R γ lo hi ρ) := by
  simp only [ev]
  first | done | rfl
theorem y_rev : ev R γ (.rev a) ρ μ = (ev R γ a ρ μ).bind kR := by
  simp only [ev]
  first | done | rfl
theorem y_lc : ev R γ (.lc ts it elt) ρ μ = (evI R γ it ρ μ).bind (kL R γ ts elt ρ) := by
  simp only [ev]
  first | done | rfl
theorem y_lcf : ev R γ (.lcf ts it c elt) ρ μ = (evI R γ it ρ μ).bind (kLf R γ ts c elt ρ) := by
  simp only [ev]
  first | done | rfl
theorem y_len : ev R γ (.len a) ρ μ = (ev R γ a ρ μ).bind kLen := by
  simp only [ev]
  congr 1
theorem y_bi : ev R γ (.bi bi es) ρ μ = (evL R γ es ρ μ).bind (kBi bi) := by
  simp only [ev]
  first | done | rfl
theorem y_isi : ev R γ (.isi a T) ρ μ = (ev R γ a ρ μ).bind (kIs T) := by
  simp only [ev]
  first | done | rfl
theorem y_mt : ev R γ (.mt m o es) ρ μ = (ev R γ o ρ μ).bind (kM1 R γ m es ρ) := by
  simp only [ev]
  first | done | rfl
theorem y_app : ev R γ (.app o e) ρ μ = (ev R γ o ρ μ).bind (kApp1 R γ e ρ) := by
  simp only [ev]
  first | done | rfl
theorem y_ext : ev R γ (.ext o e) ρ μ = (ev R γ o ρ μ).bind (kExt1 R γ e ρ) := by
  simp only [ev]
  first | done | rfl
theorem y_pop : ev R γ (.pop o) ρ μ = (ev R γ o ρ μ).bind kPop := by
  simp only [ev]
  first | done | rfl
theorem y_pat : ev R γ (.popAt o e) ρ μ = (ev R γ o ρ μ).bind (kPat1 R γ e ρ) := by
  simp only [ev]
  first | done | rfl
theorem y_sset : ev R γ (.sset a) ρ μ = (ev R γ a ρ μ).bind kSs := by
  simp only [ev]
  first | done | rfl
theorem y_ch3 {o3 : CmpOp} {d : E} : ev R γ (.chn3 o1 o2 o3 a b c d) ρ μ = (ev R γ a ρ μ).bind (kT1 R γ o1 o2 o3 b c d ρ) := by
  simp only [ev]
  first | done | rfl
theorem y_lix : ev R γ (.lix a b) ρ μ = (ev R γ a ρ μ).bind (kLx1 R γ b ρ) := by
  simp only [ev]
  first | done | rfl
theorem y_upp : ev R γ (.upp a) ρ μ = (ev R γ a ρ μ).bind kUp := by
  simp only [ev]
  first | done | rfl
theorem y_srk : ev R γ (.srk a i) ρ μ = (ev R γ a ρ μ).bind (kSk (γ "LETTERS") ρ[i]?) := by
  simp only [ev]
  first | done | rfl | (congr 1; funext x μ; unfold kSk; split <;> rfl)
theorem y_edt : ev R γ .edt ρ μ = .ok (.dt (.dict [])) μ := by
  simp only [ev]
  first | done | rfl
theorem y_lset : ev R γ (.lset a) ρ μ = (ev R γ a ρ μ).bind kLs := by
  simp only [ev]
  first | done | rfl
theorem y_mk : ev R γ (.mk a) ρ μ = (ev R γ a ρ μ).bind kMk := by
  simp only [ev]
  first | done | rfl
theorem y_lrg : ev R γ (.lrg a) ρ μ = (ev R γ a ρ μ).bind kLr := by
  simp only [ev]
  first | done | rfl
theorem y_lrg2 : ev R γ (.lrg2 a b) ρ μ = (ev R γ a ρ μ).bind (kLr1 R γ b ρ) := by
  simp only [ev]
  first | done | rfl
theorem z_gh : exec R γ F (.gh i s1) ρ μ = ghF R γ F i s1 ρ μ ρ[i]? := by
  unfold ghF
  simp only [exec]
  first | done | rfl
theorem z_swp {i1 o2 i2 : E} : exec R γ F (.swp o i1 o2 i2 e) ρ μ = (ev R γ e ρ μ).st (sSw1 R γ o i1 o2 i2 ρ) := by
  simp only [exec]
  first | done | rfl | (congr 1; done) | (congr 1; funext y μ1; unfold sSw1; split <;> rfl)
theorem y_ln : evL R γ .nil ρ μ = .ok [] μ := by
  simp only [evL]
  first | done | rfl
theorem y_lc1 : evL R γ (.cons a es) ρ μ = (ev R γ a ρ μ).bind (kE1 R γ es ρ) := by
  simp only [evL]
  first | done | rfl
theorem y_pn : evP R γ .nil ρ μ = .ok none μ := by
  simp only [evP]
  first | done | rfl
theorem y_pc : evP R γ (.cons a es) ρ μ = (ev R γ a ρ μ).bind kP := by
  simp only [evP]
  first | done | rfl
theorem y_rng : evI R γ (.rng es) ρ μ = (evL R γ es ρ μ).bind kRg := by
  simp only [evI]
  first | done | rfl
theorem y_itv : evI R γ (.itv e) ρ μ = (ev R γ e ρ μ).bind kIv := by
  simp only [evI]
  first | done | rfl
theorem y_an : evAnd R γ (.cons a es) ρ μ = (ev R γ a ρ μ).bind (kA1 R γ es ρ) := by
  simp only [evAnd]
  first | done | rfl
theorem y_on : evOr R γ (.cons a es) ρ μ = (ev R γ a ρ μ).bind (kO1 R γ es ρ) := by
  simp only [evOr]
  first | done | rfl
theorem y_B (h : e.isIfe = false) : evB R γ e ρ μ = (ev R γ e ρ μ).bind kTr := by
  unfold evB
  rw [h, if_neg Bool.false_ne_true]
  rfl
theorem y_Band : evB R γ (.and es) ρ μ = (ev R γ (.and es) ρ μ).bind kTr := y_B rfl
theorem y_Bor : evB R γ (.or es) ρ μ = (ev R γ (.or es) ρ μ).bind kTr := y_B rfl
theorem y_Bnot : evB R γ (.not a) ρ μ = (ev R γ (.not a) ρ μ).bind kTr := y_B rfl
theorem y_Bcmp : evB R γ (.cmp op a b) ρ μ = (ev R γ (.cmp op a b) ρ μ).bind kTr := y_B rfl
theorem y_Bch3 {o3 : CmpOp} {d : E} : evB R γ (.chn3 o1 o2 o3 a b c d) ρ μ = (ev R γ (.chn3 o1 o2 o3 a b c d) ρ μ).bind kTr := y_B rfl
theorem y_Bchn : evB R γ (.chn o1 o2 a b c) ρ μ = (ev R γ (.chn o1 o2 a b c) ρ μ).bind kTr := y_B rfl
theorem y_Bcall : evB R γ (.call x es) ρ μ = (ev R γ (.call x es) ρ μ).bind kTr := y_B rfl
theorem y_Bisi : evB R γ (.isi a T) ρ μ = (ev R γ (.isi a T) ρ μ).bind kTr := y_B rfl
theorem y_Bbi : evB R γ (.bi bi es) ρ μ = (ev R γ (.bi bi es) ρ μ).bind kTr := y_B rfl
theorem y_Bvar : evB R γ (.var i) ρ μ = (ev R γ (.var i) ρ μ).bind kTr := y_B rfl
theorem y_Bmt : evB R γ (.mt m o es) ρ μ = (ev R γ (.mt m o es) ρ μ).bind kTr := y_B rfl
theorem y_Blen : evB R γ (.len a) ρ μ = (ev R γ (.len a) ρ μ).bind kTr := y_B rfl
theorem y_Bbin : evB R γ (.bin bo a b) ρ μ = (ev R γ (.bin bo a b) ρ μ).bind kTr := y_B rfl
theorem y_Bidx : evB R γ (.idx a b) ρ μ = (ev R γ (.idx a b) ρ μ).bind kTr := y_B rfl
theorem y_Bcst : evB R γ (.cst d) ρ μ = (ev R γ (.cst d) ρ μ).bind kTr := y_B rfl
theorem y_Blc : evB R γ (.lc ts it elt) ρ μ = (ev R γ (.lc ts it elt) ρ μ).bind kTr := y_B rfl
theorem y_Blcf : evB R γ (.lcf ts it c elt) ρ μ = (ev R γ (.lcf ts it c elt) ρ μ).bind kTr := y_B rfl
theorem z_nil : exec R γ F .nil ρ μ = .nx ρ μ := by
  simp only [exec]
  first | done | rfl
theorem z_cons : exec R γ F (.cons s1 s2) ρ μ = seqS (exec R γ F s1 ρ μ) (exec R γ F s2) := by
  simp only [exec]
  first | done | rfl
theorem z_asg : exec R γ F (.asg md i e) ρ μ = (ev R γ e ρ μ).st (sAsg md i ρ) := by
  simp only [exec]
  first | done | rfl
theorem z_unp : exec R γ F (.unp ts e) ρ μ = (ev R γ e ρ μ).st (sUnp ts ρ) := by
  simp only [exec]
  first | done | rfl
theorem z_unpL : exec R γ F (.unpL ts e) ρ μ = (ev R γ e ρ μ).st (sUnpL ts ρ) := by
  simp only [exec]
  first | done | rfl
theorem z_six : exec R γ F (.six o a e) ρ μ = (ev R γ e ρ μ).st (sSix1 R γ o a ρ) := by
  simp only [exec]
  first | done | rfl
theorem z_exp : exec R γ F (.exp e) ρ μ = (ev R γ e ρ μ).st (sExp ρ) := by
  simp only [exec]
  first | done | rfl
theorem z_ret : exec R γ F (.ret e) ρ μ = (ev R γ e ρ μ).st sRet := by
  simp only [exec]
  first | done | rfl
theorem z_retN : exec R γ F .retN ρ μ = .rt (.dt .none) μ := by
  simp only [exec]
  first | done | rfl
theorem z_ite : exec R γ F (.ite e s1 s2) ρ μ = (evB R γ e ρ μ).st (sIte R γ F s1 s2 ρ) := by
  simp only [exec]
  first | done | rfl
theorem z_for : exec R γ F (.loop ts it s1) ρ μ = (evI R γ it ρ μ).st (sFor R γ F ts s1 ρ) := by
  simp only [exec]
  first | done | rfl
theorem z_whl : exec R γ F (.whl e s1) ρ μ = whlL (evB R γ e) (exec R γ F s1) F ρ μ := by
  simp only [exec]
  first | done | rfl
theorem z_rai : exec R γ F (.raise x e) ρ μ = (ev R γ e ρ μ).st (sRai x) := by
  simp only [exec]
  first | done | rfl
theorem z_tryB {cs : List Str} {j : Nat} : exec R γ F (.tryB cs i j s1) ρ μ = if i = j then catchM cs (exec R γ F s1 ρ μ) else catch8 cs (exec R γ F s1 ρ μ) := by
  simp only [exec]
  first | done | rfl
theorem cM_rt {cs : List Str} {v : Vl} : catchM cs (.rt v μ) = .rt v μ := by
  unfold catchM
  exact id rfl
theorem cM_nx {cs : List Str} : catchM cs (.nx ρ μ) = .nx ρ μ := by
  unfold catchM
  exact id rfl
theorem cM_exc {cs : List Str} : catchM cs (.exc x μ) = if (cs.contains x && names8.contains x) = true then .rt (.dt (.str (marks8.getD (names8.idxOf x) ""))) μ else .bad := by
  unfold catchM
  exact id rfl
theorem c8_rt {cs : List Str} {v : Vl} : catch8 cs (.rt v μ) = .rt v μ := by
  unfold catch8
  exact id rfl
theorem c8_nx {cs : List Str} : catch8 cs (.nx ρ μ) = .nx ρ μ := by
  unfold catch8
  exact id rfl
theorem c8_exc {cs : List Str} : catch8 cs (.exc x μ) = if (cs.contains x && names8.contains x) = true then .rt (.fr [.int ((names8.idxOf x : Nat) : Int)]) μ else .bad := by
  unfold catch8
  exact id rfl
theorem z_pass : exec R γ F .pass ρ μ = .nx ρ μ := by
  simp only [exec]
  first | done | rfl
theorem z_brk : exec R γ F .brk ρ μ = .bk ρ μ := by
  simp only [exec]
  first | done | rfl
theorem z_cont : exec R γ F .cont ρ μ = .ct ρ μ := by
  simp only [exec]
  first | done | rfl
end
end
end TL
/-! T23: texts -/
namespace TL
open PySem PySem.Spec L2
set_option autoImplicit false
theorem abc : (Str.ofString "abcdef") = Tx [97, 98, 99, 100, 101, 102] := by decide +kernel
theorem emp : (Str.ofString "") = Tx [] := by decide +kernel
/-- the first m letters -/
def lets (m : Int) : List Nat := [97, 98, 99, 100, 101, 102].take m.toNat
@[simp] theorem tx_len (l : List Nat) : (Tx l).length = l.length := by simp [Str.length]
theorem tx_app (a b : List Nat) : Tx a ++ Tx b = Tx (a ++ b) := by
  show (⟨_⟩ : Str) = _
  simp
theorem tx_inj {a b : List Nat} : Tx a = Tx b ↔ a = b := by simp
theorem tx_beq (a b : List Nat) : (Tx a == Tx b) = decide (a = b) := by
  by_cases h : a = b
  · subst h; simp
  · rw [decide_eq_false h]
    simpa using h
@[simp] theorem signs_tx (w : List Nat) : signs (Tx w) = w.map fun c => .str (Tx [c]) := by simp [signs]
@[simp] theorem in_tx (c : Nat) (w : List Nat) : inStr (Tx [c]) (Tx w) = decide (c ∈ w) := by
  have := inStr_one c (Tx w)
  simpa using this
theorem cut_tx (w : List Nat) (lo hi : Option Int) : cutS (Tx w) lo hi = Tx ((w.drop (HT.sIx w.length 0 lo)).take (HT.sIx w.length w.length hi - HT.sIx w.length 0 lo)) := by
  unfold cutS
  simp [Str.length]
theorem cut_to (w : List Nat) (m : Int) (h : 0 ≤ m) : cutS (Tx w) none (some m) = Tx (w.take m.toNat) := by
  rw [cut_tx]
  have : HT.sIx w.length w.length (some m) = min m.toNat w.length := by
    simp only [HT.sIx]
    rw [if_neg (by omega)]
  rw [this]
  simp only [HT.sIx, List.drop_zero, Nat.sub_zero]
  rw [show w.take (min m.toNat w.length) = w.take m.toNat from by
    by_cases q : m.toNat ≤ w.length
    · rw [Nat.min_eq_left q]
    · rw [Nat.min_eq_right (by omega), List.take_length, List.take_of_length_le (by omega)]]
theorem cut_from (w : List Nat) (m : Int) (h : 0 ≤ m) : cutS (Tx w) (some m) none = Tx (w.drop m.toNat) := by
  rw [cut_tx]
  have : HT.sIx w.length 0 (some m) = min m.toNat w.length := by
    simp only [HT.sIx]
    rw [if_neg (by omega)]
  rw [this]
  simp only [HT.sIx]
  rw [List.take_of_length_le (by simp), show w.drop (min m.toNat w.length) = w.drop m.toNat from by
    by_cases q : m.toNat ≤ w.length
    · rw [Nat.min_eq_left q]
    · rw [Nat.min_eq_right (by omega), List.drop_length, List.drop_of_length_le (by omega)]]
theorem join_one (l : List Nat) : Txt.join (Tx []) (l.map fun c => Tx [c]) = Tx l := by
  rw [TL.join_eq]
  induction l with
  | nil => rfl
  | cons c l ih =>
    cases l with
    | nil => rfl
    | cons d l =>
      have e : Str.join (Tx []) ((c :: d :: l).map fun c => Tx [c]) = Tx [c] ++ Tx [] ++ Str.join (Tx []) ((d :: l).map fun c => Tx [c]) := rfl
      rw [e, ih, tx_app, tx_app]
      rfl
@[simp] theorem isT_str (m : Mt) (μ : Mu) (x : Str) : isT m μ (.dt (.str x)) = true := by
  cases m <;> rfl
@[simp] theorem kM2_ok (m : Mt) (x : D) (xs : List Vl) (ds : List D) (μ : Mu) (h : datas μ xs = some ds) : kM2 m (.dt x) xs μ = Rs.of (mtF m x ds) μ := by
  unfold kM2
  rw [h]
  exact id rfl
theorem mt_join1 (l : List Nat) (h : l.length ≤ 100000) : mtF .join (.str (Str.ofString "")) [.list (l.map fun c => .str (Tx [c]))] = some (.dt (.str (Tx l))) := by
  have e1 : strsOf (l.map fun c => .str (Tx [c])) = some (l.map fun c => Tx [c]) := strsOf_mapf _ _
  have hs : ∀ l : List Nat, ((l.map fun c => Tx [c]).map (·.length)).sum = l.length := fun l => by
    induction l with
    | nil => rfl
    | cons a l ih => simp only [List.map_cons, List.sum_cons, ih, List.length_cons, tx_len, List.length_nil]; omega
  have e2 : (Str.ofString "").length = 0 := by rw [emp]; rfl
  simp only [mtF, e1, hs, e2, Nat.mul_zero, Nat.add_zero]
  rw [if_pos (by omega), emp, join_one]
theorem rg_from1 (n : Nat) (h : n ≤ 100000) : rngF [.int 1, .int n] = some (rangeL 1 (n - 1)) := by
  rw [rg_2 1 (n : Int) (by omega), show ((n : Int) - 1).toNat = n - 1 by omega]
theorem rg_to (n : Nat) (h : n ≤ 100000) : rngF [.int n] = some (rangeL 0 n) := by
  rw [rg_1 (n : Int) (by omega), Int.toNat_natCast]
@[simp] theorem rg_len (lo : Int) (n : Nat) : (rangeL lo n).length = n := by simp [rangeL]
theorem eqv_tx (a b : List Nat) : PyData.eqv (.str (Tx a)) (.str (Tx b)) = decide (a = b) := by
  simp only [PyData.eqv]
  exact tx_beq a b
theorem any_tx (w : List Nat) : ∀ ws : List (List Nat), ((ws.map fun x => PyData.str (Tx x)).any fun z => PyData.eqv z (.str (Tx w))) = decide (w ∈ ws)
  | [] => by simp
  | a :: ws => by
    rw [List.map_cons, List.any_cons, eqv_tx, any_tx w ws]
    by_cases h : a = w
    · subst h; simp
    · have : ¬ w = a := fun z => h z.symm
      simp [h, this]
theorem flat_strs {ws : List (List Nat)} (hs : ∀ x ∈ ws, ∀ c ∈ x, c < 128) : Flat 1 (.list (ws.map fun x => PyData.str (Tx x))) := flat_list fun d hd => by
  rw [List.mem_map] at hd
  obtain ⟨x, hx, rfl⟩ := hd
  exact flat_str (hs x hx)
/-- a text in a list, a tuple of texts -/
theorem in_strs (w : List Nat) (ws : List (List Nat)) (hw : ∀ c ∈ w, c < 128) (hs : ∀ x ∈ ws, ∀ c ∈ x, c < 128) : cmpF .In (.str (Tx w)) (.list (ws.map fun x => .str (Tx x))) = some (decide (w ∈ ws)) := by
  have e : cmpF .In (.str (Tx w)) (.list (ws.map fun x => .str (Tx x))) = if (SeqAt.shaped (.str (Tx w)) && SeqAt.shaped (.list (ws.map fun x => PyData.str (Tx x)))) = true then some ((ws.map fun x => PyData.str (Tx x)).any fun z => PyData.eqv z (.str (Tx w))) else none := rfl
  rw [e, (flat_str hw).shp (by omega), (flat_strs hs).shp (by omega), any_tx]
  rfl
theorem in_strt (w : List Nat) (ws : List (List Nat)) (hw : ∀ c ∈ w, c < 128) (hs : ∀ x ∈ ws, ∀ c ∈ x, c < 128) : cmpF .In (.str (Tx w)) (.tuple (ws.map fun x => .str (Tx x))) = some (decide (w ∈ ws)) := by
  have e : cmpF .In (.str (Tx w)) (.tuple (ws.map fun x => .str (Tx x))) = if (SeqAt.shaped (.str (Tx w)) && SeqAt.shaped (.list (ws.map fun x => PyData.str (Tx x)))) = true then some ((ws.map fun x => PyData.str (Tx x)).any fun z => PyData.eqv z (.str (Tx w))) else none := rfl
  rw [e, (flat_str hw).shp (by omega), (flat_strs hs).shp (by omega), any_tx]
  rfl
theorem eq_tx (a b : List Nat) : cmpF .Eq (.str (Tx a)) (.str (Tx b)) = some (decide (a = b)) := by
  rw [cm_eqs, tx_beq]
theorem ne_tx (a b : List Nat) : cmpF .NotEq (.str (Tx a)) (.str (Tx b)) = some (!decide (a = b)) := by
  rw [cm_nes, tx_beq]
end TL
/-! T24: the box in the store; loops -/
namespace TL
open PySem PySem.Spec L2
set_option autoImplicit false
/-- the box k holds N -/
def bx (μ : Mu) (k : Nat) (N : Int) : Mu := μ.set k (some (.lst [.int N]))
section
variable {μ ys : Mu} {k : Nat} {N N' : Int} {x y : Option Ent}
@[simp] theorem bx_len : (bx μ k N).length = μ.length := by simp [bx]
@[simp] theorem bx_bx : bx (bx μ k N) k N' = bx μ k N' := by simp [bx]
theorem bx_get (h : k < μ.length) : (bx μ k N)[k]? = some (some (.lst [.int N])) := by simp [bx, h]
theorem bx_geta (h : k < μ.length) : (bx μ k N ++ ys)[k]? = some (some (.lst [.int N])) := by
  rw [List.getElem?_append_left (by simpa using h), bx_get h]
theorem bx_app (h : k < μ.length) : bx (μ ++ ys) k N = bx μ k N ++ ys := by
  unfold bx
  rw [List.set_append_left _ _ h]
theorem bx_new : μ ++ [some (.lst [.int N])] = bx (μ ++ [none]) μ.length N := by
  unfold bx
  rw [List.set_append_right _ _ (Nat.le_refl _)]
  simp
@[simp] theorem ap_get : (bx μ k N ++ [x])[μ.length]? = some x := by
  rw [List.getElem?_append_right (by simp)]
  simp
@[simp] theorem ap_set : (bx μ k N ++ [x]).set μ.length y = bx μ k N ++ [y] := by
  rw [List.set_append_right _ _ (by simp)]
  simp
@[simp] theorem ap_take : (bx μ k N ++ ys).take μ.length = bx μ k N := by
  rw [List.take_append_of_le_length (by simp)]
  exact List.take_of_length_le (by simp)
@[simp] theorem bx_take : (bx μ k N).take μ.length = bx μ k N := List.take_of_length_le (by simp)
theorem mu_get : (μ ++ [x])[μ.length]? = some x := by simp
theorem mu_set : (μ ++ [x]).set μ.length y = μ ++ [y] := by
  rw [List.set_append_right _ _ (Nat.le_refl _)]
  simp
end
/-- a text of one sign -/
abbrev sg (c : Nat) : D := .str (Tx [c])
/-- signs that are letters and the like -/
def Lo (l : List Nat) : Prop := ∀ c ∈ l, c < 128
theorem Lo.tail {c : Nat} {l : List Nat} (h : Lo (c :: l)) : Lo l := fun d hd => h d (List.mem_cons_of_mem _ hd)
theorem Lo.app {a b : List Nat} (h : Lo a) (g : Lo b) : Lo (a ++ b) := fun d hd => (List.mem_append.mp hd).elim (h d) (g d)
theorem Lo.sub {a b : List Nat} (h : Lo b) (g : ∀ c ∈ a, c ∈ b) : Lo a := fun d hd => h d (g d hd)
theorem lo_lets (m : Int) : Lo (lets m) := fun c hc => by
  have := List.mem_of_mem_take hc
  simp at this
  omega
theorem flat_sgs {l : List Nat} (h : Lo l) : Flat 1 (.list (l.map sg)) := flat_list fun d hd => by
  rw [List.mem_map] at hd
  obtain ⟨x, hx, rfl⟩ := hd
  exact flat_str fun c hc => by
    simp at hc
    subst hc
    exact h _ hx
theorem flat_nil : Flat 1 (.list []) := flat_list fun d hd => by cases hd
theorem ne_nil {ds : List D} (h : Flat 60 (.list ds)) : cmpF .NotEq (.list ds) (.list []) = some (!ds.isEmpty) := by
  rw [cm_ne _ _ h (flat_nil.up (by omega)) (by omega)]
  cases ds <;> simp [PyData.eqv, PyData.eqvAll]
theorem eq_nil {ds : List D} (h : Flat 60 (.list ds)) : cmpF .Eq (.list ds) (.list []) = some ds.isEmpty := by
  rw [cm_eq _ _ h (flat_nil.up (by omega)) (by omega)]
  cases ds <;> simp [PyData.eqv, PyData.eqvAll]
theorem er_map {α β : Type} (f : α → β) : ∀ (l : List α) (j : Nat), (l.map f).eraseIdx j = (l.eraseIdx j).map f
  | [], _ => rfl
  | a :: l, 0 => rfl
  | a :: l, j + 1 => by simp [er_map f l j]
theorem er_perm {α : Type} : ∀ (l : List α) (j : Nat) (h : j < l.length), (l[j] :: l.eraseIdx j).Perm l
  | [], _, h => by simp at h
  | a :: l, 0, _ => by simp
  | a :: l, j + 1, h => by
    simp only [List.getElem_cons_succ, List.eraseIdx_cons_succ]
    exact (List.Perm.swap ..).trans ((er_perm l j (by simpa using h)).cons a)
theorem szlt {n : Nat} (h : n ≤ 100000) : n < sizeLine := by have := sizeLine_eq; omega
theorem szle {n : Nat} (h : n ≤ 100000) : n ≤ sizeLine := by have := sizeLine_eq; omega
theorem bn_muls (x : Str) (j : Int) (h : 0 ≤ j ∧ j ≤ 1000 ∧ x.length ≤ 1000) : binF .Mult (.str x) (.int j) = some (.dt (.str ⟨(List.replicate j.toNat x.cps.toList).flatten.toArray⟩)) := if_pos h
section
variable {c : Ro → Mu → Rs Bool} {body : Ro → Mu → RS} {F : Nat} {ρ ρ1 ρ2 : Ro} {μ μ1 μ2 : Mu} {ts : List Nat} {d : D} {r : List D} {x : Vl}
theorem whl_stop (h : c ρ μ = .ok false μ1) : whlL c body (F + 1) ρ μ = .nx ρ μ1 := by simp only [whlL, h]
theorem whl_step (h : c ρ μ = .ok true μ1) (g : body ρ μ1 = .nx ρ2 μ2) : whlL c body (F + 1) ρ μ = whlL c body F ρ2 μ2 := by simp only [whlL, h, g]
theorem for_step (h : bindT ts d ρ = some ρ1) (g : body ρ1 μ = .nx ρ2 μ2) : forL ts body (d :: r) ρ μ = forL ts body r ρ2 μ2 := by simp only [forL, h, g]
theorem for_ret (h : bindT ts d ρ = some ρ1) (g : body ρ1 μ = .rt x μ2) : forL ts body (d :: r) ρ μ = .rt x μ2 := by simp only [forL, h, g]
theorem for_nil : forL ts body [] ρ μ = .nx ρ μ := rfl
/-- a loop over a range that is never left -/
theorem for_rng {i : Nat} {lo : Int} (I : Ro → Mu → Prop) (n : Nat) (ρ : Ro) (μ : Mu) (h : I ρ μ) (H : ∀ j : Nat, j < n → ∀ ρ μ, I ρ μ → ∃ ρ2 μ2, body (ρ.set i (some (.dt (.int (lo + (j : Int)))))) μ = .nx ρ2 μ2 ∧ I ρ2 μ2) :
    ∃ ρ' μ', forL [i] body (rangeL lo n) ρ μ = .nx ρ' μ' ∧ I ρ' μ' := by
  refine for_inv I (rangeL lo n) ρ μ h fun d hd ρ μ hi => ?_
  unfold rangeL at hd
  rw [List.mem_map] at hd
  obtain ⟨j, hj, rfl⟩ := hd
  rw [List.mem_range] at hj
  obtain ⟨ρ2, μ2, h1, h2⟩ := H j hj ρ μ hi
  exact ⟨_, ρ2, μ2, rfl, .inl h1, h2⟩
/-- a loop over given things that is never left -/
theorem for_mem {α : Type} {i : Nat} (g : α → D) (I : Ro → Mu → Prop) (l : List α) (ρ : Ro) (μ : Mu) (h : I ρ μ) (H : ∀ a ∈ l, ∀ ρ μ, I ρ μ → ∃ ρ2 μ2, body (ρ.set i (some (.dt (g a)))) μ = .nx ρ2 μ2 ∧ I ρ2 μ2) :
    ∃ ρ' μ', forL [i] body (l.map g) ρ μ = .nx ρ' μ' ∧ I ρ' μ' := by
  refine for_inv I (l.map g) ρ μ h fun d hd ρ μ hi => ?_
  rw [List.mem_map] at hd
  obtain ⟨a, ha, rfl⟩ := hd
  obtain ⟨ρ2, μ2, h1, h2⟩ := H a ha ρ μ hi
  exact ⟨_, ρ2, μ2, rfl, .inl h1, h2⟩
theorem kPat2_ok {k j : Nat} {xs : List D} (h : μ[k]? = some (some (.lst xs))) (hj : j < xs.length) (hs : j < 100000) : kPat2 (.hd k) (.dt (.int (j : Nat))) μ = .ok (.dt xs[j]) (μ.set k (some (.lst (xs.eraseIdx j)))) := by
  unfold kPat2
  simp only [h]
  rw [if_pos (by omega)]
  simp [hj]
end
end TL
/-! T25: repr; loops by what was walked -/
namespace TL
open PySem PySem.Spec L2
set_option autoImplicit false
/-- data whose repr is short -/
structure Rp (k n : Nat) (d : D) : Prop where
  sh : d.showable = true
  dp : d.depth ≤ k
  ln : d.shown.length ≤ n
  nd : d.hasDict = false
theorem sha_all : ∀ l : List D, PyData.showableAll l = l.all PyData.showable
  | [] => by simp [PyData.showableAll]
  | a :: l => by simp [PyData.showableAll, sha_all l]
theorem hda_all : ∀ l : List D, PyData.hasDictAll l = l.any PyData.hasDict
  | [] => by simp [PyData.hasDictAll]
  | a :: l => by simp [PyData.hasDictAll, hda_all l]
theorem sho_all : ∀ l : List D, PyData.shownAll l = l.map PyData.shown
  | [] => by simp [PyData.shownAll]
  | a :: l => by simp [PyData.shownAll, sho_all l]
theorem sum_le {α : Type} (f : α → Nat) (n : Nat) : ∀ l : List α, (∀ x ∈ l, f x ≤ n) → (l.map f).sum ≤ n * l.length
  | [], _ => by simp
  | a :: l, h => by
    have h1 := h a (List.mem_cons_self ..)
    have h2 := sum_le f n l fun x hx => h x (List.mem_cons_of_mem _ hx)
    simp only [List.map_cons, List.sum_cons, List.length_cons, Nat.mul_add, Nat.mul_one]
    omega
theorem rp_int {i : Int} (h : i.natAbs < 10 ^ 12) : Rp 0 13 (.int i) := by
  refine ⟨?_, by simp [PyData.depth], PyData.shown_int_le h, by simp [PyData.hasDict]⟩
  simp only [PyData.showable, decide_eq_true_eq]
  have : i.natAbs < 2 ^ 1919 := Nat.lt_of_lt_of_le h (Nat.le_trans (show 10 ^ 12 ≤ 2 ^ 40 by decide) (Nat.pow_le_pow_right (by decide) (by decide)))
  by_cases z : i.natAbs = 0
  · rw [z]; decide
  · exact Nat.lt_of_lt_of_le ((Nat.log2_lt z).mpr this) (by decide)
theorem rp_bool (b : Bool) : Rp 0 5 (.bool b) := by cases b <;> exact ⟨by decide, by decide, by decide +kernel, by decide⟩
theorem rp_none : Rp 0 4 .none := ⟨by decide, by decide, by decide +kernel, by decide⟩
theorem rp_str {w : List Nat} (h : Lo w) : Rp 0 (10 * w.length + 2) (.str (Tx w)) := by
  refine ⟨by simp [PyData.showable], by simp [PyData.depth], ?_, by simp [PyData.hasDict]⟩
  simp only [PyData.shown]
  have := StrLaws.reprText_len (Tx w) (fun c hc => Nat.lt_of_lt_of_le (h c (by simpa using hc)) (by decide))
  simpa using this
theorem rp_list {k n : Nat} {ds : List D} (h : ∀ d ∈ ds, Rp k n d) : Rp (k + 1) ((n + 2) * ds.length + 3) (.list ds) := by
  refine ⟨?_, ?_, ?_, ?_⟩
  · simp only [PyData.showable, sha_all, List.all_eq_true]
    exact fun d hd => (h d hd).sh
  · simp only [PyData.depth]
    exact Nat.succ_le_succ (dp_all ds k fun d hd => (h d hd).dp)
  · simp only [PyData.shown, sho_all]
    have h1 := listText_len_le (ds.map PyData.shown)
    have h2 := sum_le (fun d : D => d.shown.length) n ds fun d hd => (h d hd).ln
    rw [List.map_map, List.length_map] at h1
    have e : ((fun x => Str.length x) ∘ PyData.shown) = (fun d : D => d.shown.length) := rfl
    rw [e] at h1
    rw [Nat.add_mul]
    omega
  · simp only [PyData.hasDict, hda_all]
    rw [List.any_eq_false]
    exact fun d hd => by rw [(h d hd).nd]; decide
theorem rp_tuple {k n : Nat} {ds : List D} (h : ∀ d ∈ ds, Rp k n d) : Rp (k + 1) ((n + 2) * ds.length + 3) (.tuple ds) := by
  refine ⟨?_, ?_, ?_, ?_⟩
  · simp only [PyData.showable, sha_all, List.all_eq_true]
    exact fun d hd => (h d hd).sh
  · simp only [PyData.depth]
    exact Nat.succ_le_succ (dp_all ds k fun d hd => (h d hd).dp)
  · simp only [PyData.shown, sho_all]
    have h1 := tupleText_len_le (ds.map PyData.shown)
    have h2 := sum_le (fun d : D => d.shown.length) n ds fun d hd => (h d hd).ln
    rw [List.map_map, List.length_map] at h1
    have e : ((fun x => Str.length x) ∘ PyData.shown) = (fun d : D => d.shown.length) := rfl
    rw [e] at h1
    rw [Nat.add_mul]
    omega
  · simp only [PyData.hasDict, hda_all]
    rw [List.any_eq_false]
    exact fun d hd => by rw [(h d hd).nd]; decide
theorem Rp.up {k n k' n' : Nat} {d : D} (h : Rp k n d) (hk : k ≤ k') (hn : n ≤ n') : Rp k' n' d := ⟨h.sh, Nat.le_trans h.dp hk, Nat.le_trans h.ln hn, h.nd⟩
theorem bi_repr {k n : Nat} {d : D} (h : Rp k n d) (hk : k ≤ 60) (hn : n ≤ 1000000) : biF .repr [d] = some (.dt (.str d.shown)) := by
  have e : biF .repr [d] = if d.showable ∧ d.depth ≤ 60 ∧ d.shown.length ≤ sizeLine ∧ d.hasDict = false then some (.dt (.str d.shown)) else none := rfl
  rw [e, if_pos ⟨h.sh, Nat.le_trans h.dp hk, by have := h.ln; have := sizeLine_eq; omega, h.nd⟩]
section
variable {body : Ro → Mu → RS} {ts : List Nat} {ρ : Ro} {μ : Mu} {α : Type}
/-- a loop by what was walked of it -/
theorem for_pre {i : Nat} (g : α → D) (I : List α → Ro → Mu → Prop) (L : List α) (h : I [] ρ μ)
    (H : ∀ pre a post, L = pre ++ a :: post → ∀ ρ μ, I pre ρ μ → ∃ ρ2 μ2, body (ρ.set i (some (.dt (g a)))) μ = .nx ρ2 μ2 ∧ I (pre ++ [a]) ρ2 μ2) :
    ∃ ρ' μ', forL [i] body (L.map g) ρ μ = .nx ρ' μ' ∧ I L ρ' μ' := by
  have go : ∀ (post pre : List α) (ρ : Ro) (μ : Mu), L = pre ++ post → I pre ρ μ → ∃ ρ' μ', forL [i] body (post.map g) ρ μ = .nx ρ' μ' ∧ I L ρ' μ' := by
    intro post
    induction post with
    | nil => exact fun pre ρ μ e q => ⟨ρ, μ, rfl, by rw [e, List.append_nil]; exact q⟩
    | cons a post ih =>
      intro pre ρ μ e q
      obtain ⟨ρ2, μ2, h1, h2⟩ := H pre a post e ρ μ q
      obtain ⟨ρ', μ', h3, h4⟩ := ih (pre ++ [a]) ρ2 μ2 (by rw [e]; simp) h2
      exact ⟨ρ', μ', by simp only [List.map_cons, forL, bindT, h1, h3], h4⟩
  exact go L [] ρ μ rfl h
/-- .. with two targets -/
theorem for_pre2 {i j : Nat} (g1 g2 : α → D) (I : List α → Ro → Mu → Prop) (L : List α) (h : I [] ρ μ)
    (H : ∀ pre a post, L = pre ++ a :: post → ∀ ρ μ, I pre ρ μ → ∃ ρ2 μ2, body ((ρ.set i (some (.dt (g1 a)))).set j (some (.dt (g2 a)))) μ = .nx ρ2 μ2 ∧ I (pre ++ [a]) ρ2 μ2) :
    ∃ ρ' μ', forL [i, j] body (L.map fun a => .tuple [g1 a, g2 a]) ρ μ = .nx ρ' μ' ∧ I L ρ' μ' := by
  have go : ∀ (post pre : List α) (ρ : Ro) (μ : Mu), L = pre ++ post → I pre ρ μ → ∃ ρ' μ', forL [i, j] body (post.map fun a => .tuple [g1 a, g2 a]) ρ μ = .nx ρ' μ' ∧ I L ρ' μ' := by
    intro post
    induction post with
    | nil => exact fun pre ρ μ e q => ⟨ρ, μ, rfl, by rw [e, List.append_nil]; exact q⟩
    | cons a post ih =>
      intro pre ρ μ e q
      obtain ⟨ρ2, μ2, h1, h2⟩ := H pre a post e ρ μ q
      obtain ⟨ρ', μ', h3, h4⟩ := ih (pre ++ [a]) ρ2 μ2 (by rw [e]; simp) h2
      exact ⟨ρ', μ', by simp [forL, bindT, h1, h3], h4⟩
  exact go L [] ρ μ rfl h
/-- a loop that hands back at the first item of a kind -/
theorem for_find {i : Nat} (g : α → D) (p : α → Bool) (r : α → Vl) (I : Ro → Prop) : ∀ (L : List α) (ρ : Ro), I ρ →
    (∀ a ∈ L, ∀ ρ, I ρ → (p a = true → body (ρ.set i (some (.dt (g a)))) μ = .rt (r a) μ) ∧ (p a = false → ∃ ρ2, body (ρ.set i (some (.dt (g a)))) μ = .nx ρ2 μ ∧ I ρ2)) →
    (∃ a, L.find? p = some a ∧ forL [i] body (L.map g) ρ μ = .rt (r a) μ) ∨ (L.find? p = none ∧ ∃ ρ', forL [i] body (L.map g) ρ μ = .nx ρ' μ ∧ I ρ')
  | [], ρ, h, _ => .inr ⟨rfl, ρ, rfl, h⟩
  | a :: L, ρ, h, H => by
    obtain ⟨h1, h2⟩ := H a (List.mem_cons_self ..) ρ h
    cases hp : p a with
    | true => exact .inl ⟨a, by simp [hp], by simp only [List.map_cons, forL, bindT, h1 hp]⟩
    | false =>
      obtain ⟨ρ2, e, q⟩ := h2 hp
      rcases for_find g p r I L ρ2 q fun b hb => H b (List.mem_cons_of_mem _ hb) with ⟨b, g1, g2⟩ | ⟨g1, ρ', g2, g3⟩
      · exact .inl ⟨b, by simp [hp, g1], by simp only [List.map_cons, forL, bindT, e, g2]⟩
      · exact .inr ⟨by simp [hp, g1], ρ', by simp only [List.map_cons, forL, bindT, e, g2], g3⟩
theorem for_find2 {i j : Nat} (g1 g2 : α → D) (p : α → Bool) (r : α → Vl) (I : Ro → Prop) : ∀ (L : List α) (ρ : Ro), I ρ →
    (∀ a ∈ L, ∀ ρ, I ρ → (p a = true → body ((ρ.set i (some (.dt (g1 a)))).set j (some (.dt (g2 a)))) μ = .rt (r a) μ) ∧ (p a = false → ∃ ρ2, body ((ρ.set i (some (.dt (g1 a)))).set j (some (.dt (g2 a)))) μ = .nx ρ2 μ ∧ I ρ2)) →
    (∃ a, L.find? p = some a ∧ forL [i, j] body (L.map fun a => .tuple [g1 a, g2 a]) ρ μ = .rt (r a) μ) ∨ (L.find? p = none ∧ ∃ ρ', forL [i, j] body (L.map fun a => .tuple [g1 a, g2 a]) ρ μ = .nx ρ' μ ∧ I ρ')
  | [], ρ, h, _ => .inr ⟨rfl, ρ, rfl, h⟩
  | a :: L, ρ, h, H => by
    obtain ⟨h1, h2⟩ := H a (List.mem_cons_self ..) ρ h
    cases hp : p a with
    | true => exact .inl ⟨a, by simp [hp], by simp [forL, bindT, h1 hp]⟩
    | false =>
      obtain ⟨ρ2, e, q⟩ := h2 hp
      rcases for_find2 g1 g2 p r I L ρ2 q fun b hb => H b (List.mem_cons_of_mem _ hb) with ⟨b, k1, k2⟩ | ⟨k1, ρ', k2, k3⟩
      · exact .inl ⟨b, by simp [hp, k1], by simpa [forL, bindT, e] using k2⟩
      · exact .inr ⟨by simp [hp, k1], ρ', by simpa [forL, bindT, e] using k2, k3⟩
end
section
variable {R : Tb} {γ : Gm} {F i n : Nat} {s : S} {ρ : Ro} {μ : Mu} {d : D} {xs : List D}
theorem gh_hd (h : μ[n]? = some (some (.lst xs))) : ghF R γ F i s ρ μ (some (some (.hd n))) = exec R γ F s (ρ.set i (some (.dt (.list xs)))) (μ.set n none) := by
  unfold ghF
  simp only [h]
@[simp] theorem gh_dt : ghF R γ F i s ρ μ (some (some (.dt d))) = exec R γ F s ρ μ := by unfold ghF; exact id rfl
end
/-- all twos, rising -/
def twoRow (m i : Nat) : List (Int × Int) := (List.range (m - (i + 1))).map fun j : Nat => ((i : Int), ((i + 1 : Nat) : Int) + (j : Int))
def twos (m : Nat) : List (Int × Int) := (List.range m).flatMap (twoRow m)
theorem twos_lt {m : Nat} {t : Int × Int} (h : t ∈ twos m) : 0 ≤ t.1 ∧ t.1 < t.2 ∧ t.2 < m := by
  unfold twos twoRow at h
  simp only [List.mem_flatMap, List.mem_range, List.mem_map] at h
  obtain ⟨i, hi, j, hj, rfl⟩ := h
  simp only
  omega
theorem mem_twos {m : Nat} {i j : Int} (h0 : 0 ≤ i) (h1 : i < j) (h2 : j < m) : (i, j) ∈ twos m := by
  unfold twos twoRow
  simp only [List.mem_flatMap, List.mem_range, List.mem_map]
  refine ⟨i.toNat, by omega, (j - i - 1).toNat, by omega, ?_⟩
  simp only [Prod.mk.injEq]
  omega
abbrev lexT (a b : Int × Int) : Prop := a.1 < b.1 ∨ (a.1 = b.1 ∧ a.2 < b.2)
theorem twos_pw (m : Nat) (h : m ≤ 6) : (twos m).Pairwise lexT := by
  rcases (by omega : m = 0 ∨ m = 1 ∨ m = 2 ∨ m = 3 ∨ m = 4 ∨ m = 5 ∨ m = 6) with rfl | rfl | rfl | rfl | rfl | rfl | rfl <;> decide
theorem twos_len (m : Nat) (h : m ≤ 6) : (twos m).length ≤ 15 := by
  rcases (by omega : m = 0 ∨ m = 1 ∨ m = 2 ∨ m = 3 ∨ m = 4 ∨ m = 5 ∨ m = 6) with rfl | rfl | rfl | rfl | rfl | rfl | rfl <;> decide
end TL
/-! T26: webs, words: plain -/
namespace TL
open PySem PySem.Spec L2
set_option autoImplicit false
/-- a tie -/
abbrev tieD (t : Int × Int) : D := .tuple [.int t.1, .int t.2]
abbrev webD (m : Int) (ts : List (Int × Int)) : D := .tuple [.int m, .tuple (ts.map tieD)]
/-- the ties rise -/
def risesB (ts : List (Int × Int)) : Bool := (List.range (ts.length - 1)).all fun k => HT.lexLt [(ts.getD k (0, 0)).1, (ts.getD k (0, 0)).2] [(ts.getD (k + 1) (0, 0)).1, (ts.getD (k + 1) (0, 0)).2]
/-- a good tie below m -/
def tieB (m : Int) (t : Int × Int) : Bool := decide (0 ≤ t.1) && decide (t.1 < m) && (decide (0 ≤ t.2) && decide (t.2 < m)) && decide (t.1 < t.2)
def webB (m : Int) (ts : List (Int × Int)) : Bool := decide (1 ≤ m) && decide (m ≤ 6) && ts.all (tieB m) && risesB ts
/-- a word of m letters -/
def wordB (m : Int) (w : List Nat) : Bool := w.all (fun c => decide (c ∈ lets m)) && (lets m).all fun c => decide (c ∈ w)
theorem sl_abc (m : Int) (h : 0 ≤ m) : slcF (.str "abcdef") none (some m) = some (.dt (.str (Tx (lets m)))) := by
  rw [sl_s _ _ _ (by decide +kernel), abc, cut_to _ _ h]
  rfl
theorem lets_len (m : Int) : (lets m).length ≤ 6 := by
  unfold lets
  rw [List.length_take]
  simp
  omega
/-- the letter of a place -/
def letN (i : Int) : Nat := 97 + i.toNat
theorem ix_abc (i : Int) (h0 : 0 ≤ i) (h1 : i < 6) : idxF (.str "abcdef") (.int i) = some (.str (Tx [letN i])) := by
  obtain ⟨k, rfl⟩ := Int.eq_ofNat_of_zero_le h0
  rw [ix_s _ _ (by decide +kernel), abc]
  have hk : k < 6 := by omega
  rw [at_nat]
  rcases (by omega : k = 0 ∨ k = 1 ∨ k = 2 ∨ k = 3 ∨ k = 4 ∨ k = 5) with rfl | rfl | rfl | rfl | rfl | rfl <;> rfl
/-- the letters of two places in a word -/
def two (w : List Nat) (i j : Int) : List Nat := w.filter fun c => decide (c ∈ [letN i, letN j])
/-- neighbours differ -/
def altB (l : List Nat) : Bool := (List.range (l.length - 1)).all fun k => !decide (l.getD k 0 = l.getD (k + 1) 0)
theorem two_sub {w : List Nat} {i j : Int} : ∀ c ∈ two w i j, c ∈ w := fun c h => (List.mem_filter.mp h).1
theorem two_len (w : List Nat) (i j : Int) : (two w i j).length ≤ w.length := List.length_filter_le _ _
theorem ix_tx (l : List Nat) (k : Nat) (hl : l.length ≤ 100000) (hk : k < l.length) : idxF (.str (Tx l)) (.int (k : Int)) = some (.str (Tx [l.getD k 0])) := by
  rw [ix_s _ _ (by rw [tx_len]; have := sizeLine_eq; omega)]
  show (atI l (k : Int)).map _ = _
  rw [at_nat, List.getElem?_eq_getElem hk]
  simp [List.getD, hk]
@[simp] theorem take_set (μ : Mu) (k : Nat) (x : Option Ent) : (μ.set k x).take μ.length = μ.set k x := List.take_of_length_le (by simp)
theorem word_perm {m : Int} {w l : List Nat} (h : w.Perm (lets m ++ l)) (hl : ∀ c ∈ l, c ∈ lets m) : wordB m w = true := by
  unfold wordB
  simp only [Bool.and_eq_true, List.all_eq_true, decide_eq_true_eq]
  refine ⟨fun c hc => ?_, fun c hc => h.mem_iff.mpr (List.mem_append_left _ hc)⟩
  rcases List.mem_append.mp (h.mem_iff.mp hc) with q | q
  · exact q
  · exact hl c q
theorem word_in {m : Int} {w : List Nat} (h : wordB m w = true) : ∀ c ∈ w, c ∈ lets m := by
  unfold wordB at h
  simp only [Bool.and_eq_true, List.all_eq_true, decide_eq_true_eq] at h
  exact h.1
theorem word_has {m : Int} {w : List Nat} (h : wordB m w = true) : ∀ c ∈ lets m, c ∈ w := by
  unfold wordB at h
  simp only [Bool.and_eq_true, List.all_eq_true, decide_eq_true_eq] at h
  exact h.2
theorem word_lo {m : Int} {w : List Nat} (h : wordB m w = true) : Lo w := (lo_lets m).sub (word_in h)
theorem flat_ints (l : List Int) : Flat 1 (.list (l.map .int)) := flat_list fun d hd => by
  rw [List.mem_map] at hd
  obtain ⟨x, hx, rfl⟩ := hd
  exact flat_int x
theorem letN_lo (i : Int) (h6 : i < 6) : letN i < 128 := by unfold letN; omega
theorem rev_tx (w : List Nat) (h : w.length ≤ 1000) : revF (.str (Tx w)) = some (.dt (.str (Tx w.reverse))) := by
  have e : revF (.str (Tx w)) = if (Tx w).length ≤ 1000 then some (.dt (.str ⟨(Tx w).cps.toList.reverse.toArray⟩)) else none := rfl
  rw [e, if_pos (by simpa using h)]
theorem word_app {m : Int} {w v : List Nat} (h : wordB m w = true) (hv : ∀ c ∈ v, c ∈ w) : wordB m (w ++ v) = true := by
  have h1 := word_in h
  have h2 := word_has h
  unfold wordB
  simp only [Bool.and_eq_true, List.all_eq_true, decide_eq_true_eq]
  refine ⟨fun c hc => ?_, fun c hc => List.mem_append_left _ (h2 c hc)⟩
  rcases List.mem_append.mp hc with q | q
  · exact h1 c q
  · exact h1 c (hv c q)

theorem prD_tie : prD = tieD := rfl
theorem lexLt_two (a b c d : Int) : HT.lexLt [a, b] [c, d] = decide (a < c ∨ (a = c ∧ b < d)) := by
  simp only [HT.lexLt]
  by_cases h1 : a < c
  · have : ¬ a = c := by omega
    simp [h1, this]
  · by_cases h2 : a = c
    · subst h2
      by_cases h3 : b < d
      · have : ¬ b = d := by omega
        simp [h3, this]
      · simp [h3]
    · simp [h1, h2]
/-- ties that rise -/
theorem rises_of {ts : List (Int × Int)} (h : ts.Pairwise lexT) : risesB ts = true := by
  unfold risesB
  rw [List.all_eq_true]
  intro k hk
  rw [List.mem_range] at hk
  have g1 : k < ts.length := by omega
  have g2 : k + 1 < ts.length := by omega
  have := List.pairwise_iff_getElem.mp h k (k + 1) g1 g2 (by omega)
  rw [lexLt_two, decide_eq_true_eq]
  simpa [List.getD, g1, g2] using this
theorem web_sub {m : Nat} {ts : List (Int × Int)} (h1 : 1 ≤ m) (h6 : m ≤ 6) (h : ts.Sublist (twos m)) : webB (m : Int) ts = true ∧ ts.length ≤ 15 := by
  refine ⟨?_, Nat.le_trans h.length_le (twos_len m h6)⟩
  unfold webB
  simp only [Bool.and_eq_true, decide_eq_true_eq, List.all_eq_true]
  refine ⟨⟨⟨by omega, by omega⟩, fun t ht => ?_⟩, rises_of ((twos_pw m h6).sublist h)⟩
  have := twos_lt (h.subset ht)
  unfold tieB
  simp only [Bool.and_eq_true, decide_eq_true_eq]
  omega
theorem any_int (i : Int) : ∀ l : List Int, ((l.map PyData.int).any fun z => PyData.eqv z (.int i)) = decide (i ∈ l)
  | [] => by simp
  | a :: l => by
    rw [List.map_cons, List.any_cons, any_int i l]
    have e : PyData.eqv (.int a) (.int i) = decide (a = i) := by simp only [PyData.eqv]; congr 1
    rw [e]
    by_cases h : a = i
    · subst h; simp
    · have : ¬ i = a := fun z => h z.symm
      simp [h, this]
theorem in_intl (i : Int) (l : List Int) : cmpF .In (.int i) (.list (l.map .int)) = some (decide (i ∈ l)) := by
  have e : cmpF .In (.int i) (.list (l.map .int)) = if (SeqAt.shaped (.int i) && SeqAt.shaped (.list (l.map .int))) = true then some ((l.map PyData.int).any fun z => PyData.eqv z (.int i)) else none := rfl
  rw [e, shp_int, (flat_ints l).shp (by omega), any_int]
  rfl
theorem in_intt (i : Int) (l : List Int) : cmpF .In (.int i) (.tuple (l.map .int)) = some (decide (i ∈ l)) := by
  have e : cmpF .In (.int i) (.tuple (l.map .int)) = if (SeqAt.shaped (.int i) && SeqAt.shaped (.list (l.map .int))) = true then some ((l.map PyData.int).any fun z => PyData.eqv z (.int i)) else none := rfl
  rw [e, shp_int, (flat_ints l).shp (by omega), any_int]
  rfl
@[simp] theorem in_intt2 (i a b : Int) : cmpF .In (.int i) (.tuple [.int a, .int b]) = some (decide (i = a ∨ i = b)) := by
  have := in_intt i [a, b]
  simpa using this
@[simp] theorem nin_intt2 (i a b : Int) : cmpF .NotIn (.int i) (.tuple [.int a, .int b]) = some (!decide (i = a ∨ i = b)) := by
  have e : cmpF .NotIn (.int i) (.tuple [.int a, .int b]) = if (SeqAt.shaped (.int i) && SeqAt.shaped (.list ([a, b].map .int))) = true then some (!(([a, b].map PyData.int).any fun z => PyData.eqv z (.int i))) else none := rfl
  rw [e, shp_int, (flat_ints [a, b]).shp (by omega), any_int]
  simp
theorem nin_intl (i : Int) (l : List Int) : cmpF .NotIn (.int i) (.list (l.map .int)) = some (!decide (i ∈ l)) := by
  have e : cmpF .NotIn (.int i) (.list (l.map .int)) = if (SeqAt.shaped (.int i) && SeqAt.shaped (.list (l.map .int))) = true then some (!((l.map PyData.int).any fun z => PyData.eqv z (.int i))) else none := rfl
  rw [e, shp_int, (flat_ints l).shp (by omega), any_int]
  rfl
theorem nin_intt (i : Int) (l : List Int) : cmpF .NotIn (.int i) (.tuple (l.map .int)) = some (!decide (i ∈ l)) := by
  have e : cmpF .NotIn (.int i) (.tuple (l.map .int)) = if (SeqAt.shaped (.int i) && SeqAt.shaped (.list (l.map .int))) = true then some (!((l.map PyData.int).any fun z => PyData.eqv z (.int i))) else none := rfl
  rw [e, shp_int, (flat_ints l).shp (by omega), any_int]
  rfl
/-- one of six -/
def pick6 {α : Type} (b0 b1 b2 b3 b4 b5 : α) (k : Int) : α := if k = 0 then b0 else if k = 1 then b1 else if k = 2 then b2 else if k = 3 then b3 else if k = 4 then b4 else b5
theorem at6 {α : Type} (b0 b1 b2 b3 b4 b5 : α) (k : Int) (h0 : 0 ≤ k) (h5 : k < 6) : atI [b0, b1, b2, b3, b4, b5] k = some (pick6 b0 b1 b2 b3 b4 b5 k) := by
  rcases (by omega : k = 0 ∨ k = 1 ∨ k = 2 ∨ k = 3 ∨ k = 4 ∨ k = 5) with rfl | rfl | rfl | rfl | rfl | rfl <;> rfl
theorem flat_len {α β : Type} (f : α → List β) (k : Nat) (l : List α) (h : ∀ x ∈ l, (f x).length ≤ k) : (l.flatMap f).length ≤ k * l.length := by
  rw [List.length_flatMap]
  exact sum_le (fun x => (f x).length) k l h
theorem pre_sub {α : Type} {L pre : List α} {a : α} {post : List α} (e : L = pre ++ a :: post) : a ∈ L ∧ ∀ x ∈ pre, x ∈ L := by
  subst e
  exact ⟨by simp, fun x hx => by simp [hx]⟩
theorem flat_intt (l : List Int) : Flat 1 (.tuple (l.map .int)) := flat_tuple fun d hd => by
  rw [List.mem_map] at hd
  obtain ⟨x, hx, rfl⟩ := hd
  exact flat_int x
theorem eq_nilt {ds : List D} (h : Flat 60 (.tuple ds)) : cmpF .Eq (.tuple ds) (.tuple []) = some ds.isEmpty := by
  rw [cm_eq _ _ h ((flat_tuple (n := 0) (l := []) fun d hd => by cases hd).up (by omega)) (by omega)]
  cases ds <;> simp [PyData.eqv, PyData.eqvAll]
/-- a comprehension whose test takes from the box -/
theorem lc_box {α : Type} {i k : Nat} {c : Ro → Mu → Rs Bool} {f : Ro → Mu → Rs Vl} {ρ : Ro} {μ : Mu} (g : α → D) : ∀ (l : List α) (N : Int),
    (∀ a ∈ l, ∀ N : Int, ∃ (b : Bool) (N' : Int), c (ρ.set i (some (.dt (g a)))) (bx μ k N) = .ok b (bx μ k N') ∧ f (ρ.set i (some (.dt (g a)))) (bx μ k N') = .ok (.dt (g a)) (bx μ k N')) →
    ∃ (N' : Int) (l' : List α), lcL [i] (some c) f ρ (l.map g) (bx μ k N) = .ok (l'.map g) (bx μ k N') ∧ l'.Sublist l
  | [], N, _ => ⟨N, [], rfl, .slnil⟩
  | a :: l, N, H => by
    obtain ⟨b, N1, h1, h2⟩ := H a (List.mem_cons_self ..) N
    obtain ⟨N2, l', h3, h4⟩ := lc_box g l N1 fun x hx => H x (List.mem_cons_of_mem _ hx)
    cases b with
    | true => exact ⟨N2, a :: l', by simp [lcL, bindT, h1, h2, h3], h4.cons₂ a⟩
    | false => exact ⟨N2, l', by simp [lcL, bindT, h1, h3], h4.cons a⟩
/-- the letters of some places in a word -/
def some_of (w : List Nat) (ps : List Int) : List Nat := w.filter fun c => decide (c ∈ ps.map letN)
/-- ints rise -/
def risesI (ps : List Int) : Bool := (List.range (ps.length - 1)).all fun k => decide (ps.getD k 0 < ps.getD (k + 1) 0)
theorem risesI_of {ps : List Int} (h : ps.Pairwise (· < ·)) : risesI ps = true := by
  unfold risesI
  rw [List.all_eq_true]
  intro k hk
  rw [List.mem_range] at hk
  have g1 : k < ps.length := by omega
  have g2 : k + 1 < ps.length := by omega
  have := List.pairwise_iff_getElem.mp h k (k + 1) g1 g2 (by omega)
  simpa [List.getD, g1, g2] using this
theorem getD_lt {α : Type} {l : List α} {i : Nat} {d : α} (h : i < l.length) : l.getD i d = l[i] := by simp [List.getD, h]
theorem led_eq (w : List Nat) (k : Nat) (hk : k ≤ w.length) : ((List.range w.length).map fun i => w.getD ((i + k) % w.length) 0) = w.drop k ++ w.take k := by
  apply List.ext_getElem
  · simp; omega
  · intro i h1 h2
    simp only [List.length_map, List.length_range] at h1
    have hw : 0 < w.length := by omega
    have hm : (i + k) % w.length < w.length := Nat.mod_lt _ hw
    rw [List.getElem_map, List.getElem_range, getD_lt hm]
    by_cases h : i + k < w.length
    · rw [List.getElem_append_left (by simp; omega)]
      simp only [List.getElem_drop]
      congr 1
      rw [Nat.mod_eq_of_lt h, Nat.add_comm]
    · rw [List.getElem_append_right (by simp; omega)]
      simp only [List.length_drop, List.getElem_take]
      congr 1
      have : (i + k) % w.length = i + k - w.length := by
        rw [Nat.mod_eq_sub_mod (by omega), Nat.mod_eq_of_lt (by omega)]
      omega
theorem rp_word {w : List Nat} (h : Lo w) (hl : w.length ≤ 1000) : biF .repr [.str (Tx w)] = some (.dt (.str (PyData.shown (.str (Tx w))))) := bi_repr (rp_str h) (by omega) (by omega)
@[simp] theorem ne_self (x : Str) : cmpF .NotEq (.str x) (.str x) = some false := by simp
end TL
/-! T27: webs that words show, orders: plain -/
namespace TL
open PySem PySem.Spec L2
set_option autoImplicit false
/-- the ties that a word shows -/
def webOf (m : Nat) (w : List Nat) : List (Int × Int) := (twos m).filter fun t => altB (two w t.1 t.2)
theorem webOf_sub (m : Nat) (w : List Nat) : (webOf m w).Sublist (twos m) := List.filter_sublist
theorem eqv_ties : ∀ a b : List (Int × Int), PyData.eqvAll (a.map tieD) (b.map tieD) = decide (a = b)
  | [], [] => by simp [PyData.eqvAll]
  | [], _ :: _ => by simp [PyData.eqvAll]
  | _ :: _, [] => by simp [PyData.eqvAll]
  | x :: a, y :: b => by
    simp only [List.map_cons, PyData.eqvAll, PyData.eqv, eqv_ties a b]
    obtain ⟨x1, x2⟩ := x
    obtain ⟨y1, y2⟩ := y
    by_cases h1 : x1 = y1 <;> by_cases h2 : x2 = y2 <;> by_cases h3 : a = b <;> simp_all
theorem flat_ties (a : List (Int × Int)) : Flat 2 (.tuple (a.map tieD)) := flat_tuple fun d hd => by
  rw [List.mem_map] at hd
  obtain ⟨t, _, rfl⟩ := hd
  exact flat_tuple fun d hd => by
    simp only [List.mem_cons, List.not_mem_nil, or_false] at hd
    rcases hd with rfl | rfl <;> exact flat_int _
theorem flat_tiesl (a : List (Int × Int)) : Flat 2 (.list (a.map tieD)) := flat_list fun d hd => by
  rw [List.mem_map] at hd
  obtain ⟨t, _, rfl⟩ := hd
  exact flat_tuple fun d hd => by
    simp only [List.mem_cons, List.not_mem_nil, or_false] at hd
    rcases hd with rfl | rfl <;> exact flat_int _
theorem flat_tie (t : Int × Int) : Flat 1 (tieD t) := flat_tuple fun d hd => by
  simp only [List.mem_cons, List.not_mem_nil, or_false] at hd
  rcases hd with rfl | rfl <;> exact flat_int _
theorem flat_web (m : Int) (a : List (Int × Int)) : Flat 3 (webD m a) := flat_tuple fun d hd => by
  simp only [List.mem_cons, List.not_mem_nil, or_false] at hd
  rcases hd with rfl | rfl
  · exact (flat_int _).up (by omega)
  · exact flat_ties a
theorem eq_web (m : Int) (a b : List (Int × Int)) : cmpF .Eq (webD m a) (webD m b) = some (decide (a = b)) := by
  rw [cm_eq _ _ (flat_web m a) (flat_web m b) (by omega)]
  simp only [PyData.eqv, PyData.eqvAll, eqv_ties]
  simp
theorem ne_web (m : Int) (a b : List (Int × Int)) : cmpF .NotEq (webD m a) (webD m b) = some (!decide (a = b)) := by
  rw [cm_ne _ _ (flat_web m a) (flat_web m b) (by omega)]
  simp only [PyData.eqv, PyData.eqvAll, eqv_ties]
  simp
theorem any_tie (t : Int × Int) : ∀ l : List (Int × Int), ((l.map tieD).any fun z => PyData.eqv z (tieD t)) = decide (t ∈ l)
  | [] => by simp
  | x :: l => by
    rw [List.map_cons, List.any_cons, any_tie t l]
    have e : PyData.eqv (tieD x) (tieD t) = decide (x = t) := by
      obtain ⟨x1, x2⟩ := x
      obtain ⟨t1, t2⟩ := t
      simp only [PyData.eqv, PyData.eqvAll]
      by_cases h1 : x1 = t1 <;> by_cases h2 : x2 = t2 <;> simp_all
    rw [e]
    by_cases h : x = t
    · subst h; simp
    · have : ¬ t = x := fun z => h z.symm
      simp [h, this]
theorem in_tiet (t : Int × Int) (l : List (Int × Int)) : cmpF .In (tieD t) (.tuple (l.map tieD)) = some (decide (t ∈ l)) := by
  have e : cmpF .In (tieD t) (.tuple (l.map tieD)) = if (SeqAt.shaped (tieD t) && SeqAt.shaped (.list (l.map tieD))) = true then some ((l.map tieD).any fun z => PyData.eqv z (tieD t)) else none := rfl
  rw [e, (flat_tie t).shp (by omega), (flat_tiesl l).shp (by omega), any_tie]
  rfl
theorem nin_tiet (t : Int × Int) (l : List (Int × Int)) : cmpF .NotIn (tieD t) (.tuple (l.map tieD)) = some (!decide (t ∈ l)) := by
  have e : cmpF .NotIn (tieD t) (.tuple (l.map tieD)) = if (SeqAt.shaped (tieD t) && SeqAt.shaped (.list (l.map tieD))) = true then some (!((l.map tieD).any fun z => PyData.eqv z (tieD t))) else none := rfl
  rw [e, (flat_tie t).shp (by omega), (flat_tiesl l).shp (by omega), any_tie]
  rfl
/-- a text or None -/
def oD : Option (List Nat) → D
  | none => .none
  | some w => .str (Tx w)
theorem rp_oD {o : Option (List Nat)} (h : ∀ w, o = some w → Lo w ∧ w.length ≤ 1000) : biF .repr [oD o] = some (.dt (.str (oD o).shown)) := by
  cases o with
  | none => exact bi_repr rp_none (by omega) (by omega)
  | some w => exact rp_word (h w rfl).1 (h w rfl).2
theorem filter_head {α : Type} (p : α → Bool) (l : List α) : (l.filter p).head? = l.find? p := List.head?_filter ..
/-- the first of those, else None -/
theorem head_none (l : List (List Nat)) : atI (l.map (fun w => PyData.str (Tx w)) ++ [.none]) 0 = some (oD l.head?) := by
  cases l with
  | nil => rfl
  | cons a l => exact at_0 _ _
/-- orders: each letter at most once -/
def ords (m : Nat) : Nat → List (List Nat)
  | 0 => [[]]
  | t + 1 => (ords m t).flatMap fun s => ((lets m).filter fun c => !decide (c ∈ s)).map fun c => s ++ [c]
theorem ords_len {m : Nat} : ∀ {t : Nat} {s : List Nat}, s ∈ ords m t → s.length = t
  | 0, s, h => by simp [ords] at h; subst h; rfl
  | t + 1, s, h => by
    simp only [ords, List.mem_flatMap, List.mem_map] at h
    obtain ⟨a, ha, c, _, rfl⟩ := h
    rw [List.length_append, ords_len ha]
    rfl
theorem ords_in {m : Nat} : ∀ {t : Nat} {s : List Nat}, s ∈ ords m t → ∀ c ∈ s, c ∈ lets m
  | 0, s, h => by simp [ords] at h; subst h; simp
  | t + 1, s, h => by
    simp only [ords, List.mem_flatMap, List.mem_map] at h
    obtain ⟨a, ha, c, hc, rfl⟩ := h
    intro d hd
    rcases List.mem_append.mp hd with q | q
    · exact ords_in ha d q
    · simp at q; subst q; exact (List.mem_filter.mp hc).1
theorem ords_many (m : Nat) : ∀ t : Nat, (ords m t).length ≤ 6 ^ t
  | 0 => by simp [ords]
  | t + 1 => by
    have h := flat_len (fun s : List Nat => ((lets m).filter fun c => !decide (c ∈ s)).map fun c => s ++ [c]) 6 (ords m t) (fun s _ => by
      rw [List.length_map]
      exact Nat.le_trans (List.length_filter_le _ _) (lets_len m))
    have := ords_many m t
    simp only [ords]
    rw [Nat.pow_succ]
    omega
theorem ords_le {m t : Nat} (h : t ≤ 6) : (ords m t).length ≤ 46656 := Nat.le_trans (ords_many m t) (Nat.le_trans (Nat.pow_le_pow_right (by omega) h) (by decide))
theorem flat_txts (ws : List (List Nat)) (h : ∀ w ∈ ws, Lo w) : Flat 1 (.list (ws.map fun x => PyData.str (Tx x))) := flat_strs h
end TL
/-! T28: webs put together, plain -/
namespace TL
open PySem PySem.Spec L2
set_option autoImplicit false
@[simp] theorem bi_intb (b : Bool) : biF .int [.bool b] = some (.dt (.int (if b = true then 1 else 0))) := rfl
@[simp] theorem ib1 (b c : Bool) : (if b = true then c else b) = (b && c) := by cases b <;> rfl
@[simp] theorem ib2 (b c : Bool) : (if b = true then b else c) = (b || c) := by cases b <;> rfl
theorem sub_pw {α : Type} {R : α → α → Prop} (asy : ∀ a b, R a b → ¬ R b a) : ∀ (L l : List α), L.Pairwise R → l.Pairwise R → (∀ x ∈ l, x ∈ L) → l.Sublist L
  | [], [], _, _, _ => .slnil
  | [], a :: l, _, _, h => by have := h a (List.mem_cons_self ..); cases this
  | b :: L, [], _, _, _ => List.nil_sublist _
  | b :: L, a :: l, h1, h2, h => by
    obtain ⟨b1, b2⟩ := List.pairwise_cons.mp h1
    obtain ⟨a1, a2⟩ := List.pairwise_cons.mp h2
    by_cases e : a = b
    · subst e
      refine (sub_pw asy L l b2 a2 fun x hx => ?_).cons₂ a
      rcases List.mem_cons.mp (h x (List.mem_cons_of_mem _ hx)) with rfl | q
      · exact absurd (a1 x hx) (fun z => asy _ _ z z)
      · exact q
    · have ha : a ∈ L := by
        rcases List.mem_cons.mp (h a (List.mem_cons_self ..)) with q | q
        · exact absurd q e
        · exact q
      refine (sub_pw asy L (a :: l) b2 h2 fun x hx => ?_).cons b
      rcases List.mem_cons.mp (h x hx) with rfl | q
      · rcases List.mem_cons.mp hx with rfl | hx
        · exact absurd rfl e
        · exact absurd (a1 x hx) (asy _ _ (b1 a ha))
      · exact q
theorem lexT_asy (a b : Int × Int) (h : lexT a b) : ¬ lexT b a := by unfold lexT at *; omega
theorem sub_twos {m : Nat} {l : List (Int × Int)} (hm : m ≤ 6) (h : ∀ t ∈ l, 0 ≤ t.1 ∧ t.1 < t.2 ∧ t.2 < m) (hp : l.Pairwise lexT) : l.Sublist (twos m) :=
  sub_pw lexT_asy _ _ (twos_pw m hm) hp fun t ht => by
    obtain ⟨h0, h1, h2⟩ := h t ht
    exact mem_twos h0 h1 h2
theorem srtP_pw {l : List (Int × Int)} (hn : l.Nodup) : (srtB leP l).Pairwise lexT := by
  have h1 := srt_pw (le := leP) (fun a b h => by simp only [leP, decide_eq_true_eq, decide_eq_false_iff_not] at *; omega) (fun a b c h1 h2 => by simp only [leP, decide_eq_true_eq] at *; omega) l
  have h2 : (srtB leP l).Nodup := (srt_perm leP l).nodup_iff.mpr hn
  refine (h1.and h2).imp fun {a b} h => ?_
  obtain ⟨h, hne⟩ := h
  simp only [leP, decide_eq_true_eq] at h
  unfold lexT
  by_cases q : a.1 = b.1
  · by_cases r : a.2 = b.2
    · exact absurd (Prod.ext q r) hne
    · omega
  · omega
theorem srt_sub {m : Nat} {l : List (Int × Int)} (hm : m ≤ 6) (h : ∀ t ∈ l, 0 ≤ t.1 ∧ t.1 < t.2 ∧ t.2 < m) (hn : l.Nodup) : (srtB leP l).Sublist (twos m) :=
  sub_twos hm (fun t ht => h t ((srt_perm leP l).mem_iff.mp ht)) (srtP_pw hn)
theorem prsOf_ties : ∀ l : List (Int × Int), prsOf (l.map tieD) = some l
  | [] => rfl
  | a :: l => by simp [prsOf, prsOf_ties l]
theorem srtF_ties (l : List (Int × Int)) : srtF (l.map tieD) = some ((srtB leP l).map tieD) := by
  cases l with
  | nil => rfl
  | cons a l =>
    have e1 : intsOf ((a :: l).map tieD) = none := rfl
    have e2 : strsOf ((a :: l).map tieD) = none := rfl
    unfold srtF
    rw [e1, e2, prsOf_ties]
    rfl
theorem bi_srt (l : List (Int × Int)) : biF .sorted [.list (l.map tieD)] = some (.fr ((srtB leP l).map tieD)) := by
  have e : biF .sorted [.list (l.map tieD)] = (srtF (l.map tieD)).map .fr := rfl
  rw [e, srtF_ties]
  rfl
/-- a tie by other names -/
def renT (o : List Int) (t : Int × Int) : Int × Int := (min (o.getD t.1.toNat 0) (o.getD t.2.toNat 0), max (o.getD t.1.toNat 0) (o.getD t.2.toNat 0))
theorem nodup_inj {α : Type} {l : List α} (h : l.Nodup) {i j : Nat} (hi : i < l.length) (hj : j < l.length) (e : l[i] = l[j]) : i = j := by
  have p := List.pairwise_iff_getElem.mp h
  rcases Nat.lt_trichotomy i j with q | q | q
  · exact absurd e (p i j hi hj q)
  · exact q
  · exact absurd e.symm (p j i hj hi q)
theorem ren_ok {m : Nat} {o : List Int} {l : List (Int × Int)} (hl : o.length = m) (ho : ∀ x ∈ o, 0 ≤ x ∧ x < m) (on : o.Nodup) (h : ∀ t ∈ l, 0 ≤ t.1 ∧ t.1 < t.2 ∧ t.2 < m) (hn : l.Nodup) :
    (∀ t ∈ l.map (renT o), 0 ≤ t.1 ∧ t.1 < t.2 ∧ t.2 < m) ∧ (l.map (renT o)).Nodup := by
  have g : ∀ i : Int, 0 ≤ i → i < m → ∃ h : i.toNat < o.length, o.getD i.toNat 0 = o[i.toNat] := fun i h0 h1 => ⟨by omega, getD_lt (by omega)⟩
  have inj : ∀ i j : Int, 0 ≤ i → i < m → 0 ≤ j → j < m → o.getD i.toNat 0 = o.getD j.toNat 0 → i = j := fun i j h0 h1 h2 h3 e => by
    obtain ⟨a1, a2⟩ := g i h0 h1
    obtain ⟨b1, b2⟩ := g j h2 h3
    rw [a2, b2] at e
    have := nodup_inj on a1 b1 e
    omega
  constructor
  · intro t ht
    rw [List.mem_map] at ht
    obtain ⟨u, hu, rfl⟩ := ht
    obtain ⟨h0, h1, h2⟩ := h u hu
    obtain ⟨a1, a2⟩ := g u.1 h0 (by omega)
    obtain ⟨b1, b2⟩ := g u.2 (by omega) h2
    have p1 := ho _ (List.getElem_mem a1)
    have p2 := ho _ (List.getElem_mem b1)
    have ne : o.getD u.1.toNat 0 ≠ o.getD u.2.toNat 0 := fun e => by
      have := inj u.1 u.2 h0 (by omega) (by omega) h2 e
      omega
    unfold renT
    simp only
    rw [a2, b2] at *
    omega
  · rw [List.Nodup, List.pairwise_map]
    refine (List.Pairwise.and_mem.mp hn).imp fun {a b} ⟨ha, hb, hne⟩ e => ?_
    obtain ⟨a0, a1, a2⟩ := h a ha
    obtain ⟨b0, b1, b2⟩ := h b hb
    unfold renT at e
    rw [Prod.mk.injEq] at e
    have c1 := inj a.1 b.1 a0 (by omega) b0 (by omega)
    have c2 := inj a.1 b.2 a0 (by omega) (by omega) b2
    have c3 := inj a.2 b.1 (by omega) a2 b0 (by omega)
    have c4 := inj a.2 b.2 (by omega) a2 (by omega) b2
    have : a.1 = b.1 ∧ a.2 = b.2 := by omega
    exact hne (Prod.ext this.1 this.2)
theorem set_ok {xs : List D} {k : Nat} {d : D} {μ : Mu} {n : Nat} (h : μ[n]? = some (some (.lst xs))) (hk : k < xs.length) : setF μ (.hd n) (.dt (.int (k : Nat))) d = some (μ.set n (some (.lst (xs.set k d)))) := by
  unfold setF
  simp only [h]
  have : ixN xs.length (k : Int) = some k := by
    unfold ixN
    rw [if_pos (by omega), if_pos (by omega)]
    simp
  rw [this]
  rfl
end TL
/-! T29: one sign in a text -/
namespace TL
open PySem PySem.Spec L2
set_option autoImplicit false
open Builtin.Str in
theorem occ_run (x : Str) (c L : Nat) : ∀ (n a : Nat) (F : Array Nat) (f : Nat), f ≤ a → F.size + n ≤ L →
    (forIn (List.range' a n) (F, f) (StrLaws.occBody x ⟨#[c]⟩ x.length L)).run.fst.toList = F.toList ++ (List.range' a n).filter fun i => decide (x.cps.toList[i]? = some c)
  | 0, a, F, f, _, _ => by simp
  | n + 1, a, F, f, hf, hL => by
    rw [List.range'_succ, List.forIn_cons]
    have hb : StrLaws.occBody x ⟨#[c]⟩ x.length L a (F, f) = if x.cps.toList[a]? = some c then pure (ForInStep.yield (F.push a, a + 1)) else pure (ForInStep.yield (F, f)) := by
      unfold StrLaws.occBody
      have e := StrLaws.subAt_one x c a
      by_cases h : x.cps.toList[a]? = some c
      · have h' := e.mpr h
        rw [if_pos h, if_pos ⟨⟨⟨by show F.size < L; omega, hf⟩, h'.1⟩, h'.2⟩]
        rfl
      · rw [if_neg h, if_neg fun q => h (e.mp ⟨q.1.2, q.2⟩)]
    rw [hb]
    by_cases h : x.cps.toList[a]? = some c
    · rw [if_pos h]
      have ih := occ_run x c L n (a + 1) (F.push a) (a + 1) (Nat.le_refl _) (by rw [Array.size_push]; omega)
      rw [Array.toList_push] at ih
      simp only [pure_bind]
      rw [ih, List.filter_cons_of_pos (by simpa using h)]
      simp
    · rw [if_neg h]
      have ih := occ_run x c L n (a + 1) F f (by omega) (by omega)
      simp only [pure_bind]
      rw [ih, List.filter_cons_of_neg (by simpa using h)]
/-- where a sign stands -/
def posOf (w : List Nat) (c : Nat) : List Nat := (List.range w.length).filter fun i => decide (w[i]? = some c)
theorem occ_pos (w : List Nat) (c : Nat) : Builtin.Str.occurrences (Tx w) (Tx [c]) 0 (Tx w).length ((Tx w).length + 1) = posOf w c := by
  rw [StrLaws.occ_eq]
  have h := occ_run (Tx w) c ((Tx w).length + 1) ((Tx w).length + 1 - 0) 0 #[] 0 (Nat.le_refl _) (by simp)
  rw [h]
  unfold posOf
  simp only [tx_len, Nat.sub_zero]
  rw [List.range'_1_concat, List.filter_append]
  simp [List.range_eq_range']
theorem posOf_cons (a : Nat) (w : List Nat) (c : Nat) : posOf (a :: w) c = (if a = c then [0] else []) ++ (posOf w c).map (· + 1) := by
  unfold posOf
  rw [List.length_cons, List.range_succ_eq_map, List.filter_cons, List.filter_map]
  by_cases h : a = c <;> simp [h, Function.comp_def]
theorem posOf_len (w : List Nat) (c : Nat) : (posOf w c).length = w.count c := by
  induction w with
  | nil => rfl
  | cons a w ih =>
    rw [posOf_cons, List.length_append, List.length_map, ih, List.count_cons]
    by_cases h : a = c <;> simp [h]
    omega
theorem count_tx (w : List Nat) (c : Nat) : Txt.count (Tx w) (Tx [c]) = (w.count c : Nat) := by
  unfold Txt.count
  rw [occ_pos, posOf_len]
@[simp] theorem mt_cnt (w : List Nat) (c : Nat) : mtF .count (.str (Tx w)) [.str (Tx [c])] = some (.dt (.int (w.count c : Nat))) := by
  have e : mtF .count (.str (Tx w)) [.str (Tx [c])] = some (.dt (.int (Txt.count (Tx w) (Tx [c])))) := rfl
  rw [e, count_tx]
open Builtin.Str in
theorem at_one (w : List Nat) (c i : Nat) : StrLaws.At (Tx w) (Tx [c]) (Tx w).length i ↔ w[i]? = some c := by
  have h := StrLaws.subAt_one (Tx w) c i
  exact h
theorem mt_idx (w : List Nat) (c : Nat) (h : c ∈ w) : mtF .index (.str (Tx w)) [.str (Tx [c])] = some (.dt (.int (w.idxOf c : Nat))) := by
  rcases StrLaws.occ_head (Tx w) (Tx [c]) 1 (Nat.le_refl _) with ⟨_, h0⟩ | ⟨i, r, e, h1, h2⟩
  · obtain ⟨i, hi⟩ := List.getElem?_of_mem h
    exact absurd ((at_one w c i).mpr hi) (h0 i)
  · have e0 : mtF .index (.str (Tx w)) [.str (Tx [c])] = match Builtin.Str.occurrences (Tx w) (Tx [c]) 0 (Tx w).length 1 with
      | i :: _ => some (.dt (.int (i : Nat)))
      | [] => none := rfl
    rw [e0, e]
    simp only
    have hi := (at_one w c i).mp h1
    have hn : ∀ k, k < i → w[k]? ≠ some c := fun k hk q => h2 k hk ((at_one w c k).mpr q)
    congr 4
    clear e e0 h1 h2 h
    induction w generalizing i with
    | nil => simp at hi
    | cons a w ih =>
      rw [List.idxOf_cons]
      cases i with
      | zero => simp at hi; simp [hi]
      | succ i =>
        have ha : a ≠ c := fun z => hn 0 (by omega) (by simp [z])
        have := ih i (by simpa using hi) fun k hk => by have := hn (k + 1) (by omega); simpa using this
        have hb : (a == c) = false := by simpa using ha
        rw [hb, ← this]
        rfl
theorem at_last {α : Type} {l : List α} {d : α} (h : 0 < l.length) : atI l (-1) = some (l.getD (l.length - 1) d) := by
  unfold atI ixN
  rw [if_neg (by omega), if_pos (by omega)]
  have e : ((-1 : Int) + (l.length : Int)).toNat = l.length - 1 := by omega
  rw [e]
  show l[l.length - 1]? = _
  rw [getD_lt (show l.length - 1 < l.length by omega), List.getElem?_eq_getElem]
theorem ix_last {w : List Nat} (h : 0 < w.length) (hl : w.length ≤ 1000) : idxF (.str (Tx w)) (.int (-1)) = some (.str (Tx [w.getD (w.length - 1) 0])) := by
  rw [ix_s _ _ (szle (by simp; omega))]
  show (atI w (-1)).map _ = _
  rw [at_last (d := 0) h]
  rfl
theorem sl_butlast {w : List Nat} (hl : w.length ≤ 1000) : slcF (.str (Tx w)) none (some (-1)) = some (.dt (.str (Tx w.dropLast))) := by
  rw [sl_s _ _ _ (szle (by simp; omega)), cut_tx]
  have : HT.sIx w.length w.length (some (-1)) = w.length - 1 := by
    simp only [HT.sIx]
    rw [if_pos (by omega)]
    omega
  rw [this]
  simp only [HT.sIx, List.drop_zero, Nat.sub_zero]
  rw [List.dropLast_eq_take]
theorem last_app {w : List Nat} (h : 0 < w.length) : w = w.dropLast ++ [w.getD (w.length - 1) 0] := by
  rw [getD_lt (show w.length - 1 < w.length by omega)]
  have hn : w ≠ [] := List.length_pos_iff.mp h
  have := List.dropLast_concat_getLast hn
  rw [List.getLast_eq_getElem] at this
  exact this.symm
/-- the last place of a sign -/
def lastOf (w : List Nat) (c : Nat) : Int := match (posOf w c).getLast? with
  | some i => (i : Nat)
  | none => -1
open Builtin.Str in
theorem last_run' (x : Str) (c : Nat) : ∀ (n a : Nat) (st : Option Nat),
    (forIn (List.range' a n) st (StrLaws.lastBody x ⟨#[c]⟩ x.length)).run = (match ((List.range' a n).filter fun i => decide (x.cps.toList[i]? = some c)).getLast? with | some i => some i | none => st)
  | 0, a, st => by simp
  | n + 1, a, st => by
    rw [List.range'_succ, List.forIn_cons]
    have hb : StrLaws.lastBody x ⟨#[c]⟩ x.length a st = if x.cps.toList[a]? = some c then pure (ForInStep.yield (some a)) else pure (ForInStep.yield st) := by
      unfold StrLaws.lastBody
      have e := StrLaws.subAt_one x c a
      by_cases h : x.cps.toList[a]? = some c
      · rw [if_pos h, if_pos (e.mpr h)]
      · rw [if_neg h, if_neg fun q => h (e.mp q)]
    rw [hb]
    by_cases h : x.cps.toList[a]? = some c
    · rw [if_pos h]
      simp only [pure_bind]
      rw [last_run' x c n (a + 1) (some a)]
      rw [List.filter_cons_of_pos (by simpa using h), List.getLast?_cons]
      cases (List.getLast? _) <;> rfl
    · rw [if_neg h]
      simp only [pure_bind]
      rw [last_run' x c n (a + 1) st, List.filter_cons_of_neg (by simpa using h)]
theorem rfind_tx (w : List Nat) (c : Nat) : Txt.rfind (Tx w) (Tx [c]) = lastOf w c := by
  unfold Txt.rfind
  rw [StrLaws.last_eq, last_run']
  unfold lastOf posOf
  simp only [tx_len, Nat.sub_zero]
  rw [List.range'_1_concat, List.filter_append]
  have e : (List.filter (fun i : Nat => decide ((Tx w).cps.toList[i]? = some c)) [0 + w.length]) = [] := by simp
  rw [e, List.append_nil, List.range_eq_range']
  have e2 : (fun i : Nat => decide ((Tx w).cps.toList[i]? = some c)) = fun i : Nat => decide (w[i]? = some c) := by simp
  rw [e2]
  cases ((List.range' 0 w.length).filter fun i => decide (w[i]? = some c)).getLast? <;> rfl
@[simp] theorem mt_rf (w : List Nat) (c : Nat) : mtF .rfind (.str (Tx w)) [.str (Tx [c])] = some (.dt (.int (lastOf w c))) := by
  have e : mtF .rfind (.str (Tx w)) [.str (Tx [c])] = some (.dt (.int (Txt.rfind (Tx w) (Tx [c])))) := rfl
  rw [e, rfind_tx]
end TL
/-! T30: a sign that stands twice -/
namespace TL
open PySem PySem.Spec L2
set_option autoImplicit false
theorem letN_in' {m j : Int} (h0 : 0 ≤ j) (h1 : j < m) (h6 : m ≤ 6) : letN j ∈ lets m := by
  obtain ⟨i, rfl⟩ := Int.eq_ofNat_of_zero_le h0
  unfold lets letN
  rcases (by omega : m = 1 ∨ m = 2 ∨ m = 3 ∨ m = 4 ∨ m = 5 ∨ m = 6) with q | q | q | q | q | q <;> subst q <;> simp <;> omega
theorem mem_posOf {w : List Nat} {c i : Nat} : i ∈ posOf w c ↔ w[i]? = some c := by
  unfold posOf
  rw [List.mem_filter, List.mem_range, decide_eq_true_eq]
  exact ⟨fun h => h.2, fun h => ⟨(List.getElem?_eq_some_iff.mp h).1, h⟩⟩
theorem posOf_lt (w : List Nat) (c : Nat) : (posOf w c).Pairwise (· < ·) := (List.pairwise_lt_range (n := w.length)).filter _
theorem idxOf_head {w : List Nat} {c : Nat} : ∀ {p : Nat} {r : List Nat}, posOf w c = p :: r → w.idxOf c = p := by
  induction w with
  | nil => intro p r h; simp [posOf] at h
  | cons a w ih =>
    intro p r h
    rw [posOf_cons] at h
    rw [List.idxOf_cons]
    by_cases e : a = c
    · subst e
      simp at h
      simp [h.1]
    · rw [if_neg e, List.nil_append] at h
      cases hp : posOf w c with
      | nil => rw [hp] at h; simp at h
      | cons q s =>
        rw [hp] at h
        simp at h
        have hb : (a == c) = false := by simpa using e
        rw [hb, cond_false, ih hp]
        exact h.1
/-- the two places of a sign that stands twice -/
theorem pos_two {w : List Nat} {c : Nat} (h : w.count c = 2) : ∃ f l, posOf w c = [f, l] ∧ w.idxOf c = f ∧ lastOf w c = (l : Nat) ∧ f < l ∧ w[f]? = some c ∧ w[l]? = some c := by
  have hl := posOf_len w c
  rw [h] at hl
  obtain ⟨f, l, e⟩ : ∃ f l, posOf w c = [f, l] := by
    match hp : posOf w c, hl with
    | [f, l], _ => exact ⟨f, l, rfl⟩
  have hp := posOf_lt w c
  rw [e] at hp
  refine ⟨f, l, e, idxOf_head e, ?_, by simpa using hp, mem_posOf.mp (by rw [e]; simp), mem_posOf.mp (by rw [e]; simp)⟩
  unfold lastOf
  rw [e]
  rfl
theorem take_succ' {w : List Nat} {c i : Nat} (h : w[i]? = some c) : w.take (i + 1) = w.take i ++ [c] := by
  rw [List.take_add_one, h]
  rfl
theorem drop_cons' {w : List Nat} {c i : Nat} (h : w[i]? = some c) : w.drop i = c :: w.drop (i + 1) := by
  obtain ⟨h1, h2⟩ := List.getElem?_eq_some_iff.mp h
  rw [List.drop_eq_getElem_cons h1, h2]
theorem sub_tx (w : List Nat) (i j : Nat) : Builtin.Str.strSub (Tx w) i j = Tx ((w.drop i).take (j - i)) := by
  have := StrLaws.strSub_toList (Tx w) i j
  cases h : Builtin.Str.strSub (Tx w) i j with
  | mk a =>
    rw [h] at this
    simp at this
    simp [← this]
theorem kind_lo {w : List Nat} (h : Lo w) : Builtin.Str.strKind (Tx w) = 1 := by
  unfold Builtin.Str.strKind
  rw [if_pos]
  rw [Array.all_eq_true_iff_forall_mem]
  intro c hc
  have := h c (by simpa using hc)
  simp
  omega
theorem split_two {w : List Nat} {c f l : Nat} (lo : Lo w) (e : posOf w c = [f, l]) (hl : w.length ≤ 1000) : mtF .split (.str (Tx w)) [.str (Tx [c])] = some (.fr [.str (Tx (w.take f)), .str (Tx ((w.drop (f + 1)).take (l - (f + 1)))), .str (Tx (w.drop (l + 1)))]) := by
  have e0 : mtF .split (.str (Tx w)) [.str (Tx [c])] = if ((Tx [c]).length == 0) = false ∧ (Tx w).length + 2 ≤ sizeLine then some (.fr ((Txt.split (Tx w) (Tx [c])).map .str)) else none := rfl
  rw [e0, if_pos ⟨rfl, by rw [tx_len]; have := sizeLine_eq; omega⟩]
  have e1 : Txt.split (Tx w) (Tx [c]) = [Tx (w.take f), Tx ((w.drop (f + 1)).take (l - (f + 1))), Tx (w.drop (l + 1))] := by
    have hm : c ∈ w := by
      have := mem_posOf.mp (show f ∈ posOf w c by rw [e]; simp)
      exact List.mem_of_getElem? this
    have hw : 0 < w.length := List.length_pos_of_mem hm
    unfold Txt.split
    rw [kind_lo lo, kind_lo (w := [c]) (fun d hd => by simp at hd; subst hd; exact lo _ hm), tx_len, tx_len]
    have h1 : ¬ w.length < [c].length := by simp only [List.length_singleton]; omega
    rw [decide_eq_false h1, decide_eq_false (Nat.lt_irrefl 1), if_neg (by decide)]
    have e' : Builtin.Str.occurrences (Tx w) (Tx [c]) 0 w.length (w.length + 1) = posOf w c := by
      have := occ_pos w c
      rw [tx_len] at this
      exact this
    rw [e', e, if_neg (by simp), StrLaws.partsBetween_eq]
    simp only [StrLaws.partsFrom, sub_tx, tx_len, List.length_singleton, List.drop_zero, Nat.sub_zero]
    rw [List.take_of_length_le (l := w.drop (l + 1)) (by simp)]
  rw [e1]
  rfl
end TL
/-! T31: words counted, plain -/
namespace TL
open PySem PySem.Spec L2
set_option autoImplicit false
theorem eqv_ints : ∀ a b : List Int, PyData.eqvAll (a.map .int) (b.map .int) = decide (a = b)
  | [], [] => by simp [PyData.eqvAll]
  | [], _ :: _ => by simp [PyData.eqvAll]
  | _ :: _, [] => by simp [PyData.eqvAll]
  | x :: a, y :: b => by
    simp only [List.map_cons, PyData.eqvAll, PyData.eqv, eqv_ints a b]
    by_cases h1 : x = y <;> by_cases h3 : a = b <;> simp_all
theorem eq_intt (a b : List Int) : cmpF .Eq (.tuple (a.map .int)) (.tuple (b.map .int)) = some (decide (a = b)) := by
  rw [cm_eq _ _ (flat_intt a) (flat_intt b) (by omega)]
  simp only [PyData.eqv, eqv_ints]
theorem ne_intt (a b : List Int) : cmpF .NotEq (.tuple (a.map .int)) (.tuple (b.map .int)) = some (!decide (a = b)) := by
  rw [cm_ne _ _ (flat_intt a) (flat_intt b) (by omega)]
  simp only [PyData.eqv, eqv_ints]
theorem nub_rep (a : Int) : ∀ n, nubI (List.replicate (n + 1) a) = [a]
  | 0 => by simp [nubI]
  | n + 1 => by
    rw [List.replicate_succ]
    unfold nubI
    rw [if_pos (by simp), nub_rep a n]
theorem nub_one {x : Int} {l : List Int} : (nubI (x :: l)).length = 1 ↔ x :: l = List.replicate (x :: l).length x := by
  constructor
  · intro h
    obtain ⟨a, ha⟩ := List.length_eq_one_iff.mp h
    have hm : ∀ y ∈ x :: l, y = a := fun y hy => by
      have := mem_nubI.mpr hy
      rw [ha] at this
      simpa using this
    have hx := hm x (List.mem_cons_self ..)
    subst hx
    exact List.eq_replicate_iff.mpr ⟨rfl, hm⟩
  · intro h
    rw [h, List.length_cons, nub_rep]
    rfl
theorem cutD_to (xs : List D) (k : Nat) : cutD xs none (some (k : Int)) = xs.take k := by
  unfold cutD
  have h2 : HT.sIx xs.length xs.length (some (k : Int)) = min k xs.length := by
    simp only [HT.sIx]
    rw [if_neg (by omega)]
    simp
  rw [h2]
  simp only [HT.sIx, List.drop_zero, Nat.sub_zero]
  by_cases h : k ≤ xs.length
  · rw [Nat.min_eq_left h]
  · rw [Nat.min_eq_right (by omega), List.take_of_length_le (Nat.le_refl _), List.take_of_length_le (by omega)]
theorem cutD_from (xs : List D) (k : Nat) : cutD xs (some (k : Int)) none = xs.drop k := by
  unfold cutD
  have h2 : HT.sIx xs.length 0 (some (k : Int)) = min k xs.length := by
    simp only [HT.sIx]
    rw [if_neg (by omega)]
    simp
  rw [h2]
  simp only [HT.sIx]
  rw [List.take_of_length_le (by simp)]
  by_cases h : k ≤ xs.length
  · rw [Nat.min_eq_left h]
  · rw [Nat.min_eq_right (by omega), List.drop_of_length_le (Nat.le_refl _), List.drop_of_length_le (by omega)]
/-- how often each letter stands -/
def timesL (m : Int) (w : List Nat) : List Int := (lets m).map fun c => ((w.count c : Nat) : Int)
theorem rp_intt {l : List Int} (h : ∀ i ∈ l, i.natAbs < 10 ^ 12) (hl : l.length ≤ 1000) : biF .repr [.tuple (l.map .int)] = some (.dt (.str (PyData.tuple (l.map .int)).shown)) := by
  refine bi_repr (k := 1) (n := 20000) ((rp_tuple (k := 0) (n := 13) fun d hd => ?_).up (by omega) (by simp; omega)) (by omega) (by omega)
  rw [List.mem_map] at hd
  obtain ⟨i, hi, rfl⟩ := hd
  exact rp_int (h i hi)
theorem rp_tie {t : Int × Int} (h1 : t.1.natAbs < 10 ^ 12) (h2 : t.2.natAbs < 10 ^ 12) : Rp 1 100 (tieD t) := by
  refine (rp_tuple (k := 0) (n := 13) fun e he => ?_).up (by omega) (by simp)
  simp only [List.mem_cons, List.not_mem_nil, or_false] at he
  rcases he with rfl | rfl
  · exact rp_int h1
  · exact rp_int h2
theorem rp_web (m : Nat) (ts : List (Int × Int)) (hm : m ≤ 6) (hs : ts.Sublist (twos m)) : biF .repr [webD m ts] = some (.dt (.str (webD m ts).shown)) := by
  have hl := Nat.le_trans hs.length_le (twos_len m hm)
  have h1 : ∀ d ∈ ts.map tieD, Rp 1 100 d := fun d hd => by
    rw [List.mem_map] at hd
    obtain ⟨t, ht, rfl⟩ := hd
    have tb := twos_lt (hs.subset ht)
    exact rp_tie (by omega) (by omega)
  have h2 : Rp 2 2000 (.tuple (ts.map tieD)) := (rp_tuple h1).up (by omega) (by simp; omega)
  refine bi_repr (k := 3) (n := 10000) ((rp_tuple (k := 2) (n := 2000) fun d hd => ?_).up (by omega) (by simp)) (by omega) (by omega)
  simp only [List.mem_cons, List.not_mem_nil, or_false] at hd
  rcases hd with rfl | rfl
  · exact (rp_int (by omega)).up (by omega) (by omega)
  · exact h2
/-- two places or None -/
def oT : Option (Int × Int) → D
  | none => .none
  | some t => tieD t
theorem rp_oT {o : Option (Int × Int)} (h : ∀ t, o = some t → t.1.natAbs < 10 ^ 12 ∧ t.2.natAbs < 10 ^ 12) : biF .repr [oT o] = some (.dt (.str (oT o).shown)) := by
  cases o with
  | none => exact bi_repr rp_none (by omega) (by omega)
  | some t => exact bi_repr (rp_tie (h t rfl).1 (h t rfl).2) (by omega) (by omega)
theorem head_noneT (l : List (Int × Int)) : atI (l.map tieD ++ [.none]) 0 = some (oT l.head?) := by
  cases l with
  | nil => rfl
  | cons a l => exact at_0 _ _
/-- the first two places that are wrong -/
def wrongT (m : Nat) (ts : List (Int × Int)) (w : List Nat) : Option (Int × Int) := (twos m).find? fun t => altB (two w t.1 t.2) != decide (t ∈ ts)
end TL
/-! T32: chord words, plain -/
namespace TL
open PySem PySem.Spec L2
set_option autoImplicit false
/-- two places are tied -/
def tiedB (ts : List (Int × Int)) (i j : Int) : Bool := decide ((min i j, max i j) ∈ ts)
theorem minmax (i j : Int) : ((if j < i then j else i), (if j > i then j else i)) = (min i j, max i j) := by
  refine Prod.ext ?_ ?_ <;> simp only <;> split <;> omega
/-- whether two places are tied in the web turned at p -/
def turnB (ts : List (Int × Int)) (p : Int) (t : Int × Int) : Bool := decide (t ∈ ts) != (!decide (p = t.1 ∨ p = t.2) && (tiedB ts t.1 p && tiedB ts t.2 p))
def turnT (m : Nat) (ts : List (Int × Int)) (p : Int) : List (Int × Int) := (twos m).filter (turnB ts p)
/-- each letter twice -/
def chordB (m : Int) (w : List Nat) : Bool := (lets m).all fun c => decide (w.count c = 2)
/-- a word turned between the first and the last of a letter -/
def turnW (w : List Nat) (c : Nat) : List Nat := w.take (w.idxOf c + 1) ++ ((w.drop (w.idxOf c + 1)).take ((lastOf w c).toNat - (w.idxOf c + 1))).reverse ++ w.drop (lastOf w c).toNat
theorem last_bnd {w : List Nat} {c : Nat} (h : c ∈ w) : 0 ≤ lastOf w c ∧ lastOf w c < w.length ∧ (w.idxOf c : Int) ≤ lastOf w c := by
  unfold lastOf
  have hp : posOf w c ≠ [] := fun z => by
    have := posOf_len w c
    rw [z] at this
    have h2 := List.count_pos_iff.mpr h
    simp at this
    omega
  obtain ⟨i, hi⟩ : ∃ i, (posOf w c).getLast? = some i := ⟨_, List.getLast?_eq_some_getLast hp⟩
  rw [hi]
  simp only
  have hm := List.mem_of_getLast? hi
  unfold posOf at hm
  rw [List.mem_filter, List.mem_range] at hm
  have h2 : w[i]? = some c := by simpa using hm.2
  have h3 : w.idxOf c ≤ i := by
    have h4 := List.getElem?_eq_some_iff.mp h2
    obtain ⟨h5, h6⟩ := h4
    clear hm hi hp h h2
    induction w generalizing i with
    | nil => simp at h5
    | cons a w ih =>
      rw [List.idxOf_cons]
      cases hb : (a == c) with
      | true => simp
      | false =>
        cases i with
        | zero => simp at h6; simp [h6] at hb
        | succ i =>
          have := ih i (by simpa using h5) (by simpa using h6)
          simp only [cond_false]
          omega
  omega
theorem sl_mid (w : List Nat) (a b : Nat) (hl : w.length ≤ 1000) : slcF (.str (Tx w)) (some (a : Int)) (some (b : Int)) = some (.dt (.str (Tx ((w.drop a).take (b - a))))) := by
  rw [sl_s _ _ _ (szle (by simp; omega)), cut_tx]
  have h1 : HT.sIx w.length 0 (some (a : Int)) = min a w.length := by
    simp only [HT.sIx]
    rw [if_neg (by omega)]
    simp
  have h2 : HT.sIx w.length w.length (some (b : Int)) = min b w.length := by
    simp only [HT.sIx]
    rw [if_neg (by omega)]
    simp
  rw [h1, h2]
  by_cases ha : a ≤ w.length
  · rw [Nat.min_eq_left ha]
    by_cases hb : b ≤ w.length
    · rw [Nat.min_eq_left hb]
    · rw [Nat.min_eq_right (by omega), List.take_of_length_le (by simp), List.take_of_length_le (by simp; omega)]
  · have e : min a w.length = w.length := by omega
    rw [e, List.drop_of_length_le (Nat.le_refl _), List.drop_of_length_le (by omega : w.length ≤ a)]
    simp
/-- the places tied to p -/
def nearL (m : Nat) (ts : List (Int × Int)) (p : Int) : List Int := ((List.range m).map fun j : Nat => (j : Int)).filter fun o => !decide (o = p) && tiedB ts p o
theorem turnT_sub (m : Nat) (ts : List (Int × Int)) (p : Int) : (turnT m ts p).Sublist (twos m) := List.filter_sublist
theorem turnW_mem {w : List Nat} {c d : Nat} (h : d ∈ turnW w c) : d ∈ w := by
  unfold turnW at h
  simp only [List.mem_append, List.mem_reverse] at h
  rcases h with (h | h) | h
  · exact List.mem_of_mem_take h
  · exact List.mem_of_mem_drop (List.mem_of_mem_take h)
  · exact List.mem_of_mem_drop h
theorem turnW_len (w : List Nat) (c : Nat) : (turnW w c).length ≤ 3 * w.length := by
  unfold turnW
  simp
  omega

theorem tied_comm (ts : List (Int × Int)) (i j : Int) : tiedB ts i j = tiedB ts j i := by
  unfold tiedB
  rw [Int.min_comm, Int.max_comm]
theorem tied_lt {ts : List (Int × Int)} {i j : Int} (h : i < j) : tiedB ts i j = decide ((i, j) ∈ ts) := by
  unfold tiedB
  rw [Int.min_eq_left (by omega), Int.max_eq_right (by omega)]
theorem tied_web {m : Nat} {w : List Nat} {i j : Int} (h0 : 0 ≤ i) (h1 : i < j) (h2 : j < m) : tiedB (webOf m w) i j = altB (two w i j) := by
  rw [tied_lt h1]
  unfold webOf
  rw [Bool.eq_iff_iff, decide_eq_true_eq, List.mem_filter]
  exact ⟨fun q => q.2, fun q => ⟨mem_twos h0 h1 h2, q⟩⟩
theorem two_comm (w : List Nat) (i j : Int) : two w i j = two w j i := by
  unfold two
  refine List.filter_congr fun c _ => ?_
  rw [decide_eq_decide]
  simp only [List.mem_cons, List.not_mem_nil, or_false]
  exact or_comm
theorem tied_web' {m : Nat} {w : List Nat} {i j : Int} (h0 : 0 ≤ i) (h1 : i < m) (g0 : 0 ≤ j) (g1 : j < m) (hn : i ≠ j) : tiedB (webOf m w) i j = altB (two w i j) := by
  by_cases h : i < j
  · exact tied_web h0 h g1
  · rw [tied_comm, two_comm]
    exact tied_web g0 (by omega) h1
/-- tied in the web turned at p -/
theorem tied_turn {m : Nat} {ts : List (Int × Int)} {p i j : Int} (h0 : 0 ≤ i) (h1 : i < m) (g0 : 0 ≤ j) (g1 : j < m) (hn : i ≠ j) :
    tiedB (turnT m ts p) i j = (tiedB ts i j != (!decide (p = i ∨ p = j) && (tiedB ts i p && tiedB ts j p))) := by
  have go : ∀ i j : Int, 0 ≤ i → i < j → j < m → tiedB (turnT m ts p) i j = (tiedB ts i j != (!decide (p = i ∨ p = j) && (tiedB ts i p && tiedB ts j p))) := fun i j h0 h1 h2 => by
    rw [tied_lt h1, tied_lt h1]
    unfold turnT
    rw [Bool.eq_iff_iff, decide_eq_true_eq, List.mem_filter]
    exact ⟨fun q => q.2, fun q => ⟨mem_twos h0 h1 h2, q⟩⟩
  by_cases h : i < j
  · exact go i j h0 h g1
  · rw [tied_comm, tied_comm ts i j, go j i g0 (by omega) h1]
    have e : decide (p = j ∨ p = i) = decide (p = i ∨ p = j) := by rw [decide_eq_decide]; exact or_comm
    rw [e, Bool.and_comm (tiedB ts j p)]
/-- webs that tie the same places are one -/
theorem sub_ext {m : Nat} {a b : List (Int × Int)} (ha : a.Sublist (twos m)) (hb : b.Sublist (twos m)) (hm : m ≤ 6) (h : ∀ i j : Int, 0 ≤ i → i < j → j < m → tiedB a i j = tiedB b i j) : a = b := by
  have key : ∀ {c d : List (Int × Int)}, c.Sublist (twos m) → d.Sublist (twos m) → (∀ i j : Int, 0 ≤ i → i < j → j < m → tiedB c i j = tiedB d i j) → ∀ x ∈ c, x ∈ d := fun {c d} hc hd h x hx => by
    obtain ⟨h0, h1, h2⟩ := twos_lt (hc.subset hx)
    have e := h x.1 x.2 h0 h1 h2
    rw [tied_lt h1, tied_lt h1, decide_eq_decide] at e
    exact e.mp hx
  have p := twos_pw m hm
  have s1 := sub_pw lexT_asy b a (p.sublist hb) (p.sublist ha) (key ha hb h)
  have s2 := sub_pw lexT_asy a b (p.sublist ha) (p.sublist hb) (key hb ha fun i j h0 h1 h2 => (h i j h0 h1 h2).symm)
  exact s1.eq_of_length_le s2.length_le
/-- turned twice -/
theorem turn_turn {m : Nat} {ts : List (Int × Int)} {p : Int} (hm : m ≤ 6) (hs : ts.Sublist (twos m)) (p0 : 0 ≤ p) (p1 : p < m) : turnT m (turnT m ts p) p = ts := by
  refine sub_ext (turnT_sub m _ p) hs hm fun i j h0 h1 h2 => ?_
  rw [tied_turn h0 (by omega) (by omega) h2 (by omega), tied_turn h0 (by omega) (by omega) h2 (by omega)]
  by_cases e1 : p = i
  · simp [e1]
  · by_cases e2 : p = j
    · simp [e2]
    · have q1 : tiedB (turnT m ts p) i p = tiedB ts i p := by
        rw [tied_turn h0 (by omega) p0 p1 (fun z => e1 z.symm)]
        simp
      have q2 : tiedB (turnT m ts p) j p = tiedB ts j p := by
        rw [tied_turn (by omega) h2 p0 p1 (fun z => e2 z.symm)]
        simp
      rw [q1, q2]
      cases tiedB ts i j <;> cases tiedB ts i p <;> cases tiedB ts j p <;> simp [e1, e2]
theorem tt1 {m : Nat} {ts : List (Int × Int)} {p i j : Int} (h0 : 0 ≤ i) (h1 : i < m) (g0 : 0 ≤ j) (g1 : j < m) (hn : i ≠ j) (h : p = i ∨ p = j) : tiedB (turnT m ts p) i j = tiedB ts i j := by
  rw [tied_turn h0 h1 g0 g1 hn, decide_eq_true h]
  simp
theorem tt2 {m : Nat} {ts : List (Int × Int)} {p i j : Int} (h0 : 0 ≤ i) (h1 : i < m) (g0 : 0 ≤ j) (g1 : j < m) (hn : i ≠ j) (e1 : p ≠ i) (e2 : p ≠ j) : tiedB (turnT m ts p) i j = (tiedB ts i j != (tiedB ts i p && tiedB ts j p)) := by
  rw [tied_turn h0 h1 g0 g1 hn, decide_eq_false (by omega)]
  simp
/-- a pair with one of a, b: what stands behind the three turns -/
theorem turn3_one {m : Nat} {ts : List (Int × Int)} {a b j : Int} (a0 : 0 ≤ a) (a1 : a < m) (b0 : 0 ≤ b) (b1 : b < m) (g0 : 0 ≤ j) (g1 : j < m) (hn : a ≠ b) (ja : j ≠ a) (jb : j ≠ b) (ht : tiedB ts a b = true) :
    tiedB (turnT m (turnT m (turnT m ts a) b) a) a j = tiedB ts b j ∧ tiedB (turnT m (turnT m (turnT m ts b) a) b) a j = tiedB ts b j := by
  have c : ∀ (T : List (Int × Int)) (x y : Int), tiedB T x y = tiedB T y x := tied_comm
  constructor
  · rw [tt1 a0 a1 g0 g1 (by omega) (.inl rfl), tt2 a0 a1 g0 g1 (by omega) (by omega) (by omega), tt1 a0 a1 g0 g1 (by omega) (.inl rfl), tt1 a0 a1 b0 b1 hn (.inl rfl), tt2 g0 g1 b0 b1 jb (by omega) hn, ht, c ts b a, ht, c ts j b, c ts j a]
    cases tiedB ts a j <;> cases tiedB ts b j <;> rfl
  · rw [tt2 a0 a1 g0 g1 (by omega) (by omega) (by omega), tt1 a0 a1 g0 g1 (by omega) (.inl rfl), tt1 a0 a1 b0 b1 hn (.inl rfl), tt2 g0 g1 b0 b1 jb (by omega) (by omega), tt2 a0 a1 g0 g1 (by omega) (by omega) (by omega), tt1 a0 a1 b0 b1 hn (.inr rfl), tt1 g0 g1 b0 b1 jb (.inr rfl), tt2 g0 g1 a0 a1 ja (by omega) (by omega), tt1 b0 b1 a0 a1 (by omega) (.inl rfl), c ts b a, ht, c ts j b, c ts j a]
    cases tiedB ts a j <;> cases tiedB ts b j <;> rfl
/-- by two, whichever is the first -/
theorem turn_two {m : Nat} {ts : List (Int × Int)} {a b : Int} (hm : m ≤ 6) (a0 : 0 ≤ a) (a1 : a < m) (b0 : 0 ≤ b) (b1 : b < m) (hn : a ≠ b) (ht : tiedB ts a b = true) :
    turnT m (turnT m (turnT m ts a) b) a = turnT m (turnT m (turnT m ts b) a) b := by
  have tb : tiedB ts b a = true := by rw [tied_comm]; exact ht
  have ab : ∀ x y : Int, x = a ∧ y = b ∨ x = b ∧ y = a → tiedB (turnT m (turnT m (turnT m ts a) b) a) x y = tiedB (turnT m (turnT m (turnT m ts b) a) b) x y := fun x y h => by
    rcases h with ⟨rfl, rfl⟩ | ⟨rfl, rfl⟩
    · rw [tt1 a0 a1 b0 b1 hn (.inl rfl), tt1 a0 a1 b0 b1 hn (.inr rfl), tt1 a0 a1 b0 b1 hn (.inl rfl), tt1 a0 a1 b0 b1 hn (.inr rfl), tt1 a0 a1 b0 b1 hn (.inl rfl), tt1 a0 a1 b0 b1 hn (.inr rfl)]
    · rw [tt1 b0 b1 a0 a1 (by omega) (.inr rfl), tt1 b0 b1 a0 a1 (by omega) (.inl rfl), tt1 b0 b1 a0 a1 (by omega) (.inr rfl), tt1 b0 b1 a0 a1 (by omega) (.inl rfl), tt1 b0 b1 a0 a1 (by omega) (.inr rfl), tt1 b0 b1 a0 a1 (by omega) (.inl rfl)]
  have one : ∀ x j : Int, 0 ≤ j → j < m → j ≠ a → j ≠ b → x = a ∨ x = b → tiedB (turnT m (turnT m (turnT m ts a) b) a) x j = tiedB (turnT m (turnT m (turnT m ts b) a) b) x j := fun x j g0 g1 ja jb h => by
    rcases h with rfl | rfl
    · obtain ⟨h1, h2⟩ := turn3_one a0 a1 b0 b1 g0 g1 hn ja jb ht
      rw [h1, h2]
    · obtain ⟨h1, h2⟩ := turn3_one b0 b1 a0 a1 g0 g1 (by omega) jb ja tb
      rw [h1, h2]
  refine sub_ext (turnT_sub m _ _) (turnT_sub m _ _) hm fun i j h0 h1 h2 => ?_
  have i1 : i < m := by omega
  have g0 : 0 ≤ j := by omega
  by_cases ii : i = a ∨ i = b
  · by_cases jj : j = a ∨ j = b
    · exact ab i j (by omega)
    · exact one i j g0 h2 (by omega) (by omega) ii
  · by_cases jj : j = a ∨ j = b
    · rw [tied_comm, tied_comm (turnT m (turnT m (turnT m ts b) a) b)]
      exact one j i h0 i1 (by omega) (by omega) jj
    · have e1 : a ≠ i := by omega
      have e2 : a ≠ j := by omega
      have e3 : b ≠ i := by omega
      have e4 : b ≠ j := by omega
      have f1 : i ≠ a := by omega
      have f2 : j ≠ a := by omega
      have f3 : i ≠ b := by omega
      have f4 : j ≠ b := by omega
      have hij : i ≠ j := by omega
      rw [tt2 h0 i1 g0 h2 hij e1 e2, tt2 h0 i1 g0 h2 hij e3 e4, tt2 h0 i1 g0 h2 hij e1 e2, tt2 h0 i1 b0 b1 f3 e1 hn, tt2 g0 h2 b0 b1 f4 e2 hn, tt2 h0 i1 a0 a1 f1 e3 (by omega), tt2 g0 h2 a0 a1 f2 e4 (by omega), tt1 h0 i1 a0 a1 f1 (.inr rfl), tt1 g0 h2 a0 a1 f2 (.inr rfl), tt1 a0 a1 b0 b1 hn (.inl rfl), tt2 h0 i1 b0 b1 f3 e1 hn, tt2 g0 h2 b0 b1 f4 e2 hn]
      rw [tt2 h0 i1 g0 h2 hij e3 e4, tt2 h0 i1 g0 h2 hij e1 e2, tt2 h0 i1 g0 h2 hij e3 e4, tt2 h0 i1 a0 a1 f1 e3 (by omega), tt2 g0 h2 a0 a1 f2 e4 (by omega), tt2 h0 i1 b0 b1 f3 e1 hn, tt2 g0 h2 b0 b1 f4 e2 hn, tt1 h0 i1 b0 b1 f3 (.inr rfl), tt1 g0 h2 b0 b1 f4 (.inr rfl), tt1 b0 b1 a0 a1 (by omega) (.inl rfl), tt2 h0 i1 a0 a1 f1 e3 (by omega), tt2 g0 h2 a0 a1 f2 e4 (by omega)]
      rw [ht, tb]
      cases tiedB ts i j <;> cases tiedB ts i a <;> cases tiedB ts j a <;> cases tiedB ts i b <;> cases tiedB ts j b <;> rfl
end TL
/-! T33: chord words turned, led on, from behind -/
namespace TL
open PySem PySem.Spec L2
set_option autoImplicit false
def altQ : List Bool → Bool
  | a :: b :: r => (a != b) && altQ (b :: r)
  | _ => true
theorem altB_cons (a b : Nat) (r : List Nat) : altB (a :: b :: r) = (!decide (a = b) && altB (b :: r)) := by
  unfold altB
  simp only [List.length_cons, Nat.add_sub_cancel]
  rw [List.range_succ_eq_map, List.all_cons, List.all_map]
  simp [Function.comp_def, -List.getD_eq_getElem?_getD]
  rfl
/-- which of two letters -/
def bl (w : List Nat) (p q : Nat) : List Bool := (w.filter fun c => decide (c = p) || decide (c = q)).map fun c => decide (c = p)
theorem alt_bl {p q : Nat} (hn : p ≠ q) : ∀ u : List Nat, (∀ c ∈ u, c = p ∨ c = q) → altB u = altQ (u.map fun c => decide (c = p))
  | [], _ => by simp [altB, altQ]
  | [a], _ => by simp [altB, altQ]
  | a :: b :: r, h => by
    rw [altB_cons, alt_bl hn (b :: r) fun c hc => h c (List.mem_cons_of_mem _ hc)]
    simp only [List.map_cons, altQ]
    have ha := h a (by simp)
    have hb := h b (by simp)
    congr 1
    rcases ha with rfl | rfl <;> rcases hb with rfl | rfl
    · simp
    · have hn' : b ≠ a := fun z => hn z.symm
      simp [hn, hn']
    · have hn' : a ≠ b := fun z => hn z.symm
      simp [hn, hn']
    · simp
theorem letN_inj {i j : Int} (h0 : 0 ≤ i) (g0 : 0 ≤ j) (h : i ≠ j) : letN i ≠ letN j := by unfold letN; omega
theorem alt_two (w : List Nat) {i j : Int} (h0 : 0 ≤ i) (g0 : 0 ≤ j) (h : i ≠ j) : altB (two w i j) = altQ (bl w (letN i) (letN j)) := by
  have e : two w i j = w.filter fun c => decide (c = letN i) || decide (c = letN j) := by
    unfold two
    refine List.filter_congr fun c _ => ?_
    simp
  rw [e, alt_bl (letN_inj h0 g0 h)]
  · rfl
  · intro c hc
    have := (List.mem_filter.mp hc).2
    simpa using this
theorem bl_app (a b : List Nat) (p q : Nat) : bl (a ++ b) p q = bl a p q ++ bl b p q := by simp [bl]
theorem bl_rev (a : List Nat) (p q : Nat) : bl a.reverse p q = (bl a p q).reverse := by simp [bl, List.filter_reverse]
theorem bl_skip {c p q : Nat} (w : List Nat) (h1 : c ≠ p) (h2 : c ≠ q) : bl (c :: w) p q = bl w p q := by
  simp [bl, List.filter_cons, h1, h2]
theorem bl_q {p q : Nat} (w : List Nat) (h : p ≠ q) : bl (q :: w) p q = false :: bl w p q := by
  have h' : q ≠ p := fun z => h z.symm
  simp [bl, List.filter_cons, h']
theorem bl_p {p q : Nat} (w : List Nat) : bl (p :: w) p q = true :: bl w p q := by simp [bl, List.filter_cons]
theorem bl_t {p q : Nat} (hn : p ≠ q) : ∀ w : List Nat, (bl w p q).count true = w.count p
  | [] => rfl
  | a :: w => by
    have ih := bl_t hn w
    by_cases h1 : a = p
    · subst h1
      rw [bl_p, List.count_cons_self, ih, List.count_cons_self]
    · by_cases h2 : a = q
      · subst h2
        rw [bl_q w hn, List.count_cons_of_ne (by decide), ih, List.count_cons_of_ne h1]
      · rw [bl_skip w h1 h2, ih, List.count_cons_of_ne h1]
theorem bl_f {p q : Nat} (hn : p ≠ q) : ∀ w : List Nat, (bl w p q).count false = w.count q
  | [] => rfl
  | a :: w => by
    have ih := bl_f hn w
    by_cases h1 : a = p
    · subst h1
      rw [bl_p, List.count_cons_of_ne (by decide), ih, List.count_cons_of_ne hn]
    · by_cases h2 : a = q
      · subst h2
        rw [bl_q w hn, List.count_cons_self, ih, List.count_cons_self]
      · rw [bl_skip w h1 h2, ih, List.count_cons_of_ne h2]
theorem len_tf : ∀ l : List Bool, l.length = l.count true + l.count false
  | [] => rfl
  | a :: l => by
    have := len_tf l
    cases a <;> simp [this] <;> omega
/-- all lists of four, two true -/
theorem four {l : List Bool} (h1 : l.count true = 2) (h2 : l.count false = 2) : ∃ a b c d, l = [a, b, c, d] := by
  have h := len_tf l
  rw [h1, h2] at h
  match l, h with
  | [a, b, c, d], _ => exact ⟨a, b, c, d, rfl⟩
theorem alt_rot {x y : List Bool} (h1 : (x ++ y).count true = 2) (h2 : (x ++ y).count false = 2) : altQ (y ++ x) = altQ (x ++ y) := by
  obtain ⟨a, b, c, d, e⟩ := four h1 h2
  have hx : x = [a, b, c, d].take x.length := by rw [← e]; simp
  have hy : y = [a, b, c, d].drop x.length := by rw [← e]; simp
  have hl : x.length ≤ 4 := by
    have := congrArg List.length e
    simp at this
    omega
  rw [e] at h1 h2
  generalize x.length = k at *
  subst hx hy
  clear e
  rcases (by omega : k = 0 ∨ k = 1 ∨ k = 2 ∨ k = 3 ∨ k = 4) with rfl | rfl | rfl | rfl | rfl <;> (revert h1 h2; revert a b c d; decide)
theorem alt_rev {x : List Bool} (h1 : x.count true = 2) (h2 : x.count false = 2) : altQ x.reverse = altQ x := by
  obtain ⟨a, b, c, d, rfl⟩ := four h1 h2
  revert h1 h2
  revert a b c d
  decide
theorem alt_mid {x y z : List Bool} (h1 : (x ++ y ++ z).count true = 2) (h2 : (x ++ y ++ z).count false = 2) : altQ (x ++ y.reverse ++ z) = (altQ (x ++ y ++ z) != (decide (y.count true = 1) && decide (y.count false = 1))) := by
  obtain ⟨a, b, c, d, e⟩ := four h1 h2
  have hx : x = [a, b, c, d].take x.length := by rw [← e]; simp
  have hy : y = ([a, b, c, d].drop x.length).take y.length := by rw [← e]; simp
  have hz : z = [a, b, c, d].drop (x.length + y.length) := by rw [← e, ← List.length_append]; simp
  have hl : x.length + y.length ≤ 4 := by
    have := congrArg List.length e
    simp at this
    omega
  rw [e] at h1 h2
  generalize x.length = k at *
  generalize y.length = n at *
  subst hx hy hz
  clear e
  rcases (by omega : k = 0 ∨ k = 1 ∨ k = 2 ∨ k = 3 ∨ k = 4) with rfl | rfl | rfl | rfl | rfl <;> rcases (by omega : n = 0 ∨ n = 1 ∨ n = 2 ∨ n = 3 ∨ n = 4) with rfl | rfl | rfl | rfl | rfl <;> first | (exfalso; omega) | (revert h1 h2; revert a b c d; decide)
theorem alt_in {x y z : List Bool} (hx : x.count false = 0) (hy : y.count false = 0) (hz : z.count false = 0) (h : x.count true + y.count true + z.count true = 2) : altQ (x ++ false :: y ++ false :: z) = decide (y.count true = 1) := by
  have rep : ∀ l : List Bool, l.count false = 0 → l = List.replicate (l.count true) true := fun l h => by
    have hl := len_tf l
    rw [h] at hl
    refine List.eq_replicate_iff.mpr ⟨by omega, fun b hb => ?_⟩
    cases b with
    | true => rfl
    | false => exact absurd (List.count_pos_iff.mpr hb) (by omega)
  rw [rep x hx, rep y hy, rep z hz]
  simp only [List.count_replicate_self]
  generalize x.count true = i at *
  generalize y.count true = j at *
  generalize z.count true = k at *
  rcases (by omega : i = 0 ∨ i = 1 ∨ i = 2) with rfl | rfl | rfl <;> rcases (by omega : j = 0 ∨ j = 1 ∨ j = 2) with rfl | rfl | rfl <;> rcases (by omega : k = 0 ∨ k = 1 ∨ k = 2) with rfl | rfl | rfl <;> first | (exfalso; omega) | decide
/-- a word in which c stands twice -/
theorem one_form {w : List Nat} {c : Nat} (h : c ∈ w) : ∃ A B, w = A ++ c :: B ∧ c ∉ A := by
  induction w with
  | nil => cases h
  | cons a w ih =>
    by_cases e : a = c
    · subst e
      exact ⟨[], w, rfl, by simp⟩
    · have hm : c ∈ w := by
        rcases List.mem_cons.mp h with q | q
        · exact absurd q.symm e
        · exact q
      obtain ⟨A, B, rfl, hA⟩ := ih hm
      refine ⟨a :: A, B, rfl, fun q => ?_⟩
      rcases List.mem_cons.mp q with q | q
      · exact e q.symm
      · exact hA q
theorem two_form {w : List Nat} {c : Nat} (h : w.count c = 2) : ∃ A B C, w = A ++ c :: (B ++ c :: C) ∧ c ∉ A ∧ c ∉ B ∧ c ∉ C := by
  obtain ⟨A, r, rfl, hA⟩ := one_form (List.count_pos_iff.mp (by omega : 0 < w.count c))
  have h1 : r.count c = 1 := by
    rw [List.count_append, List.count_cons_self, List.count_eq_zero.mpr hA] at h
    omega
  obtain ⟨B, C, rfl, hB⟩ := one_form (List.count_pos_iff.mp (by omega : 0 < r.count c))
  refine ⟨A, B, C, rfl, hA, hB, ?_⟩
  rw [List.count_append, List.count_cons_self, List.count_eq_zero.mpr hB] at h1
  exact List.count_eq_zero.mp (by omega)
theorem idx_form {A r : List Nat} {c : Nat} (h : c ∉ A) : (A ++ c :: r).idxOf c = A.length := by
  induction A with
  | nil => simp
  | cons a A ih =>
    have ha : a ≠ c := fun z => h (by simp [z])
    have hb : (a == c) = false := by simpa using ha
    rw [List.cons_append, List.idxOf_cons, hb, cond_false, ih fun q => h (List.mem_cons_of_mem _ q)]
    rfl
theorem pos_app (A r : List Nat) (c : Nat) : posOf (A ++ r) c = posOf A c ++ (posOf r c).map (· + A.length) := by
  induction A with
  | nil => simp [posOf]
  | cons a A ih =>
    rw [List.cons_append, posOf_cons, posOf_cons, ih]
    simp [List.map_append, List.append_assoc, Function.comp_def]
    intro x _
    omega
theorem pos_no {A : List Nat} {c : Nat} (h : c ∉ A) : posOf A c = [] := by
  unfold posOf
  rw [List.filter_eq_nil_iff]
  intro i _ q
  exact h (List.mem_of_getElem? (by simpa using q))
theorem last_form {A C : List Nat} {c : Nat} (h : c ∉ C) : lastOf (A ++ c :: C) c = (A.length : Nat) := by
  unfold lastOf
  rw [pos_app, posOf_cons, pos_no h]
  simp
/-- a word turned -/
theorem turn_form {A B C : List Nat} {c : Nat} (hA : c ∉ A) (hC : c ∉ C) : turnW (A ++ c :: (B ++ c :: C)) c = A ++ c :: (B.reverse ++ c :: C) := by
  have e1 := idx_form (r := B ++ c :: C) hA
  have e2 : lastOf (A ++ c :: (B ++ c :: C)) c = ((A.length + 1 + B.length : Nat) : Int) := by
    have := last_form (A := A ++ c :: B) (C := C) (c := c) hC
    simp only [List.append_assoc, List.cons_append, List.length_append, List.length_cons] at this
    rw [this]
    omega
  unfold turnW
  rw [e1, e2, Int.toNat_natCast]
  have t1 : (A ++ c :: (B ++ c :: C)).take (A.length + 1) = A ++ [c] := by
    rw [List.take_append, List.take_of_length_le (by omega)]
    simp
  have d1 : (A ++ c :: (B ++ c :: C)).drop (A.length + 1) = B ++ c :: C := by
    rw [List.drop_append]
    simp
  have d2 : (A ++ c :: (B ++ c :: C)).drop (A.length + 1 + B.length) = c :: C := by
    rw [← List.drop_drop, d1]
    simp
  rw [t1, d1, d2, show A.length + 1 + B.length - (A.length + 1) = B.length by omega]
  simp
theorem turnW_twice {w : List Nat} {c : Nat} (h : w.count c = 2) : turnW (turnW w c) c = w := by
  obtain ⟨A, B, C, rfl, hA, hB, hC⟩ := two_form h
  rw [turn_form hA hC, turn_form hA hC, List.reverse_reverse]
theorem turnW_perm {w : List Nat} {c : Nat} (h : w.count c = 2) : (turnW w c).Perm w := by
  obtain ⟨A, B, C, rfl, hA, hB, hC⟩ := two_form h
  rw [turn_form hA hC]
  exact List.Perm.append_left _ (List.Perm.cons _ (List.Perm.append_right _ (List.reverse_perm B)))
/-- a chord word -/
structure Ch (m : Nat) (w : List Nat) : Prop where
  wd : wordB m w = true
  ch : chordB m w = true
theorem Ch.cnt {m : Nat} {w : List Nat} (h : Ch m w) {i : Int} (h0 : 0 ≤ i) (h1 : i < m) (hm : m ≤ 6) : w.count (letN i) = 2 := by
  have hc := h.ch
  unfold chordB at hc
  rw [List.all_eq_true] at hc
  have := hc (letN i) (letN_in' h0 h1 (by omega))
  simpa using this
theorem Ch.perm {m : Nat} {w v : List Nat} (h : Ch m w) (p : v.Perm w) : Ch m v := by
  refine ⟨?_, ?_⟩
  · have h1 := word_in h.wd
    have h2 := word_has h.wd
    unfold wordB
    simp only [Bool.and_eq_true, List.all_eq_true, decide_eq_true_eq]
    exact ⟨fun c hc => h1 c (p.mem_iff.mp hc), fun c hc => p.mem_iff.mpr (h2 c hc)⟩
  · have hc := h.ch
    unfold chordB at hc ⊢
    rw [List.all_eq_true] at hc ⊢
    intro c q
    rw [p.count_eq]
    exact hc c q
theorem Ch.turn {m : Nat} {w : List Nat} (h : Ch m w) {p : Int} (p0 : 0 ≤ p) (p1 : p < m) (hm : m ≤ 6) : Ch m (turnW w (letN p)) := h.perm (turnW_perm (h.cnt p0 p1 hm))
/-- turned at a place the word shows the web turned there -/
theorem web_turn {m : Nat} {w : List Nat} (h : Ch m w) {p : Int} (p0 : 0 ≤ p) (p1 : p < m) (hm : m ≤ 6) : webOf m (turnW w (letN p)) = turnT m (webOf m w) p := by
  refine sub_ext (webOf_sub m _) (turnT_sub m _ p) hm fun i j h0 h1 h2 => ?_
  have i1 : i < m := by omega
  have j0 : 0 ≤ j := by omega
  rw [tied_web h0 h1 h2]
  obtain ⟨A, B, C, e, hA, hB, hC⟩ := two_form (h.cnt p0 p1 hm)
  have ci := h.cnt h0 i1 hm
  have cj := h.cnt j0 h2 hm
  have cp := h.cnt p0 p1 hm
  -- tied to p: one letter between
  have near : ∀ x : Int, 0 ≤ x → x < m → x ≠ p → altB (two w x p) = decide (B.count (letN x) = 1) := fun x x0 x1 xp => by
    have hn := letN_inj x0 p0 xp
    have cx := h.cnt x0 x1 hm
    rw [alt_two w x0 p0 xp, e, bl_app, bl_q _ hn, bl_app, bl_q _ hn]
    have z : ∀ l : List Nat, letN p ∉ l → (bl l (letN x) (letN p)).count false = 0 := fun l hl => by rw [bl_f hn]; exact List.count_eq_zero.mpr hl
    have := alt_in (z A hA) (z B hB) (z C hC) (by
      rw [bl_t hn, bl_t hn, bl_t hn]
      rw [e] at cx
      simp only [List.count_append, List.count_cons] at cx
      have : (letN p == letN x) = false := by simpa using fun z => hn z.symm
      simp [this] at cx
      omega)
    rw [bl_t hn] at this
    simpa using this
  by_cases ip : p = i
  · subst ip
    rw [tt1 h0 i1 j0 h2 (by omega) (.inl rfl), tied_web h0 h1 h2]
    have hn : letN j ≠ letN p := letN_inj j0 h0 (by omega)
    rw [two_comm, two_comm w, alt_two _ j0 h0 (by omega), alt_two _ j0 h0 (by omega), e, turn_form hA hC, bl_app, bl_app, bl_q _ hn, bl_q _ hn, bl_app, bl_app, bl_rev]
    have : (bl B (letN j) (letN p)).reverse = bl B (letN j) (letN p) := by
      have z : (bl B (letN j) (letN p)).count false = 0 := by rw [bl_f hn]; exact List.count_eq_zero.mpr hB
      have r : bl B (letN j) (letN p) = List.replicate ((bl B (letN j) (letN p)).length) true := List.eq_replicate_iff.mpr ⟨rfl, fun b hb => by
        cases b with
        | true => rfl
        | false => exact absurd (List.count_pos_iff.mpr hb) (by omega)⟩
      rw [r, List.reverse_replicate]
    rw [this]
  · by_cases jp : p = j
    · subst jp
      rw [tt1 h0 i1 j0 h2 (by omega) (.inr rfl), tied_web h0 h1 h2]
      have hn : letN i ≠ letN p := letN_inj h0 j0 (by omega)
      rw [alt_two _ h0 j0 (by omega), alt_two _ h0 j0 (by omega), e, turn_form hA hC, bl_app, bl_app, bl_q _ hn, bl_q _ hn, bl_app, bl_app, bl_rev]
      have : (bl B (letN i) (letN p)).reverse = bl B (letN i) (letN p) := by
        have z : (bl B (letN i) (letN p)).count false = 0 := by rw [bl_f hn]; exact List.count_eq_zero.mpr hB
        have r : bl B (letN i) (letN p) = List.replicate ((bl B (letN i) (letN p)).length) true := List.eq_replicate_iff.mpr ⟨rfl, fun b hb => by
          cases b with
          | true => rfl
          | false => exact absurd (List.count_pos_iff.mpr hb) (by omega)⟩
        rw [r, List.reverse_replicate]
      rw [this]
    · rw [tt2 h0 i1 j0 h2 (by omega) (fun z => ip z) (fun z => jp z), tied_web h0 h1 h2, tied_web' h0 i1 p0 p1 (fun z => ip z.symm), tied_web' j0 h2 p0 p1 (fun z => jp z.symm), near i h0 i1 (fun z => ip z.symm), near j j0 h2 (fun z => jp z.symm)]
      have hn : letN i ≠ letN j := letN_inj h0 j0 (by omega)
      have n1 : letN p ≠ letN i := letN_inj p0 h0 ip
      have n2 : letN p ≠ letN j := letN_inj p0 j0 jp
      rw [alt_two _ h0 j0 (by omega), alt_two _ h0 j0 (by omega), e, turn_form hA hC]
      simp only [bl_app, bl_skip _ n1 n2, bl_rev]
      rw [← List.append_assoc, ← List.append_assoc, alt_mid, bl_t hn, bl_f hn]
      · rw [List.append_assoc, ← bl_skip (c := letN p) C n1 n2, ← bl_app, ← bl_skip (c := letN p) (B ++ _) n1 n2, ← bl_app, bl_t hn, ← e]
        exact ci
      · rw [List.append_assoc, ← bl_skip (c := letN p) C n1 n2, ← bl_app, ← bl_skip (c := letN p) (B ++ _) n1 n2, ← bl_app, bl_f hn, ← e]
        exact cj
/-- led on, from behind: the same web -/
theorem web_led {m : Nat} {x y : List Nat} (h : Ch m (x ++ y)) (hm : m ≤ 6) : webOf m (y ++ x) = webOf m (x ++ y) := by
  unfold webOf
  refine List.filter_congr fun t ht => ?_
  obtain ⟨h0, h1, h2⟩ := twos_lt ht
  have hn : letN t.1 ≠ letN t.2 := letN_inj h0 (by omega) (by omega)
  rw [alt_two _ h0 (by omega) (by omega), alt_two _ h0 (by omega) (by omega), bl_app, bl_app, alt_rot]
  · rw [← bl_app, bl_t hn]; exact h.cnt h0 (by omega) hm
  · rw [← bl_app, bl_f hn]; exact h.cnt (by omega) h2 hm
theorem web_rev {m : Nat} {w : List Nat} (h : Ch m w) (hm : m ≤ 6) : webOf m w.reverse = webOf m w := by
  unfold webOf
  refine List.filter_congr fun t ht => ?_
  obtain ⟨h0, h1, h2⟩ := twos_lt ht
  have hn : letN t.1 ≠ letN t.2 := letN_inj h0 (by omega) (by omega)
  rw [alt_two _ h0 (by omega) (by omega), alt_two _ h0 (by omega) (by omega), bl_rev, alt_rev]
  · rw [bl_t hn]; exact h.cnt h0 (by omega) hm
  · rw [bl_f hn]; exact h.cnt (by omega) h2 hm
end TL
/-! T35: texts of webs, written and read -/
namespace TL
open PySem PySem.Spec L2
set_option autoImplicit false
/-- words with a sign between them -/
def jw (c : Nat) : List (List Nat) → List Nat
  | [] => []
  | [a] => a
  | a :: b :: r => a ++ c :: jw c (b :: r)
theorem join_jw (c : Nat) (ws : List (List Nat)) : Txt.join (Tx [c]) (ws.map Tx) = Tx (jw c ws) := by
  rw [TL.join_eq]
  induction ws with
  | nil => rfl
  | cons a ws ih =>
    cases ws with
    | nil => rfl
    | cons b ws =>
      have e : Str.join (Tx [c]) ((a :: b :: ws).map Tx) = Tx a ++ Tx [c] ++ Str.join (Tx [c]) ((b :: ws).map Tx) := rfl
      rw [e, ih, tx_app, tx_app]
      simp [jw]
theorem len_jw (c : Nat) : ∀ ws : List (List Nat), (jw c ws).length ≤ (ws.map List.length).sum + ws.length
  | [] => by simp [jw]
  | [a] => by simp [jw]
  | a :: b :: r => by
    have := len_jw c (b :: r)
    simp only [jw, List.length_append, List.length_cons, List.map_cons, List.sum_cons] at *
    omega
theorem mt_jw (c : Nat) (ws : List (List Nat)) (h : (ws.map List.length).sum + ws.length ≤ 100000) : mtF .join (.str (Tx [c])) [.list (ws.map fun w => .str (Tx w))] = some (.dt (.str (Tx (jw c ws)))) := by
  have e1 : strsOf (ws.map fun w => .str (Tx w)) = some (ws.map Tx) := strsOf_mapf _ _
  have hs : ((ws.map Tx).map (·.length)).sum = (ws.map List.length).sum := by
    rw [List.map_map]
    exact congrArg List.sum (List.map_congr_left fun w _ => by simp)
  have e2 : (Tx [c]).length = 1 := rfl
  simp only [mtF, e1, hs, e2, List.length_map, Nat.mul_one]
  rw [if_pos (by omega), join_jw]
theorem parts_jw (c : Nat) : ∀ (ws : List (List Nat)) (pre : List Nat), ws ≠ [] → (∀ a ∈ ws, c ∉ a) → StrLaws.partsFrom (Tx (pre ++ jw c ws)) 1 pre.length ((posOf (jw c ws) c).map (· + pre.length)) = ws.map Tx
  | [], _, h, _ => absurd rfl h
  | [a], pre, _, h => by
    simp only [jw]
    rw [pos_no (h a (by simp))]
    simp only [List.map_nil, StrLaws.partsFrom, sub_tx, tx_len, List.map_cons]
    rw [List.drop_left, List.take_of_length_le (by simp)]
  | a :: b :: r, pre, _, h => by
    have ih := parts_jw c (b :: r) (pre ++ a ++ [c]) (by simp) fun x hx => h x (List.mem_cons_of_mem _ hx)
    simp only [jw]
    have ha := h a (by simp)
    generalize jw c (b :: r) = J at *
    rw [pos_app, pos_no ha, posOf_cons]
    simp only [if_true, List.nil_append, List.map_append, List.map_cons, List.map_nil, List.map_map, Nat.zero_add, List.singleton_append, StrLaws.partsFrom, sub_tx]
    have e1 : ((pre ++ (a ++ c :: J)).drop pre.length).take (a.length + pre.length - pre.length) = a := by
      rw [List.drop_left, Nat.add_sub_cancel, List.take_left]
    have e2 : pre ++ (a ++ c :: J) = pre ++ a ++ [c] ++ J := by simp
    have e3 : (pre ++ a ++ [c]).length = a.length + pre.length + 1 := by simp; omega
    rw [e3] at ih
    have e4 : (fun x => x + pre.length) ∘ (fun x => x + a.length) ∘ (fun x => x + 1) = fun x => x + (a.length + pre.length + 1) := by
      funext x
      simp only [Function.comp]
      omega
    rw [e1]
    refine congrArg (Tx a :: ·) ?_
    rw [e2]
    have e5 : (((posOf J c).map (· + 1)).map (· + a.length)).map (· + pre.length) = (posOf J c).map (· + (a.length + pre.length + 1)) := by
      rw [List.map_map, List.map_map]
      exact List.map_congr_left fun x _ => by simp only [Function.comp]; omega
    first
      | (rw [← List.map_map, ← List.map_map, e5]; exact ih)
      | (simp only [List.map_map] at e5; rw [e5]; exact ih)
      | (rw [e4]; exact ih)
theorem mt_split {c : Nat} {ws : List (List Nat)} (hn : ws ≠ []) (lo : Lo (jw c ws)) (hc : c < 128) (h : ∀ a ∈ ws, c ∉ a) (hl : (jw c ws).length ≤ 1000) (h1 : 0 < (jw c ws).length) : mtF .split (.str (Tx (jw c ws))) [.str (Tx [c])] = some (.fr (ws.map fun w => .str (Tx w))) := by
  have e0 : mtF .split (.str (Tx (jw c ws))) [.str (Tx [c])] = if ((Tx [c]).length == 0) = false ∧ (Tx (jw c ws)).length + 2 ≤ sizeLine then some (.fr ((Txt.split (Tx (jw c ws)) (Tx [c])).map .str)) else none := rfl
  rw [e0, if_pos ⟨rfl, by rw [tx_len]; have := sizeLine_eq; omega⟩]
  have e1 : Txt.split (Tx (jw c ws)) (Tx [c]) = ws.map Tx := by
    have hp := parts_jw c ws [] hn h
    simp only [List.nil_append, List.length_nil, Nat.add_zero, List.map_id'] at hp
    have e' : Builtin.Str.occurrences (Tx (jw c ws)) (Tx [c]) 0 (jw c ws).length ((jw c ws).length + 1) = posOf (jw c ws) c := by
      have := occ_pos (jw c ws) c
      rw [tx_len] at this
      exact this
    unfold Txt.split
    rw [kind_lo lo, kind_lo (w := [c]) (fun d hd => by simp at hd; subst hd; exact hc), tx_len, tx_len]
    have h1 : ¬ (jw c ws).length < [c].length := by simp only [List.length_singleton]; omega
    rw [decide_eq_false h1, decide_eq_false (Nat.lt_irrefl 1), if_neg (by decide), e']
    split
    · next hz =>
      rw [List.isEmpty_iff] at hz
      rw [hz] at hp
      simp only [StrLaws.partsFrom, sub_tx, tx_len, List.drop_zero, Nat.sub_zero, List.take_length] at hp
      exact hp
    · rw [StrLaws.partsBetween_eq]
      exact hp
  rw [e1, List.map_map]
  rfl
theorem lcm2 {i j : Nat} {f : Ro → Mu → Rs Vl} {ρ : Ro} {μ : Mu} (h : Int × Int → D) : ∀ (l : List (Int × Int)), (∀ t ∈ l, f ((ρ.set i (some (.dt (.int t.1)))).set j (some (.dt (.int t.2)))) μ = .ok (.dt (h t)) μ) → lcL [i, j] none f ρ (l.map tieD) μ = .ok (l.map h) μ
  | [], _ => rfl
  | t :: l, H => by
    have ih := lcm2 h l fun t ht => H t (List.mem_cons_of_mem _ ht)
    have h0 := H t (List.mem_cons_self ..)
    simp only [List.map_cons, lcL, bindT, List.length_cons, List.length_nil, List.zip_cons_cons, List.zip_nil_right, List.foldl_cons, List.foldl_nil, bind_ok, h0, data_dt, if_true, ih]
/-- one figure -/
def fg (i : Int) : Nat := 48 + i.toNat
theorem to6 {P : Int → Prop} (h : P 0 ∧ P 1 ∧ P 2 ∧ P 3 ∧ P 4 ∧ P 5 ∧ P 6) {i : Int} (h0 : 0 ≤ i) (h1 : i ≤ 6) : P i := by
  obtain ⟨a, b, c, d, e, f, g⟩ := h
  rcases (by omega : i = 0 ∨ i = 1 ∨ i = 2 ∨ i = 3 ∨ i = 4 ∨ i = 5 ∨ i = 6) with rfl | rfl | rfl | rfl | rfl | rfl | rfl <;> assumption
theorem bi_fig {i : Int} (h0 : 0 ≤ i) (h1 : i ≤ 6) : biF .str [.int i] = some (.dt (.str (Tx [fg i]))) := by
  have e : ((toString i : String) : Str) = Tx [fg i] := to6 (P := fun i => ((toString i : String) : Str) = Tx [fg i]) (by decide +kernel) h0 h1
  have l : i.natAbs.log2 < 1920 := to6 (P := fun i => i.natAbs.log2 < 1920) (by decide +kernel) h0 h1
  show (if i.natAbs.log2 < 1920 then some (Vl.dt (.str ((toString i : String) : Str))) else none) = _
  rw [if_pos l, e]
theorem bi_unfig {i : Int} (h0 : 0 ≤ i) (h1 : i ≤ 6) : biF .int [.str (Tx [fg i])] = some (.dt (.int i)) := by
  have e : PySem.intText? (Tx [fg i]) = some i := to6 (P := fun i => PySem.intText? (Tx [fg i]) = some i) (by decide +kernel) h0 h1
  simp only [biF, e]
  rw [if_pos (by rw [tx_len]; simp)]
theorem fg_in {i : Int} (h0 : 0 ≤ i) (h1 : i ≤ 6) : cmpF .NotIn (.str (Tx [fg i])) (.str "0123456") = some false := by
  have e : inStr (Tx [fg i]) "0123456" = true := to6 (P := fun i => inStr (Tx [fg i]) "0123456" = true) (by decide +kernel) h0 h1
  show some (!inStr (Tx [fg i]) "0123456") = _
  rw [e]
  rfl
/-- a tie written -/
def tieW (t : Int × Int) : List Nat := [fg t.1, 45, fg t.2]
def webW (m : Nat) (ts : List (Int × Int)) : List Nat := jw 32 ([fg m] :: ts.map tieW)
theorem fg_bnd {i : Int} (h0 : 0 ≤ i) (h1 : i ≤ 6) : 48 ≤ fg i ∧ fg i ≤ 54 := by unfold fg; omega
theorem tieW_no {t : Int × Int} (h0 : 0 ≤ t.1) (h1 : t.1 ≤ 6) (g0 : 0 ≤ t.2) (g1 : t.2 ≤ 6) : 32 ∉ tieW t := by
  have a := fg_bnd h0 h1
  have b := fg_bnd g0 g1
  unfold tieW
  simp only [List.mem_cons, List.not_mem_nil, or_false]
  omega
theorem sum_three (ts : List (Int × Int)) : ((ts.map tieW).map List.length).sum = 3 * ts.length := by
  induction ts with
  | nil => rfl
  | cons t ts ih =>
    simp only [List.map_cons, List.sum_cons, ih, tieW, List.length_cons, List.length_nil]
    omega
theorem jw_mem {c d : Nat} : ∀ {ws : List (List Nat)}, d ∈ jw c ws → d = c ∨ ∃ a ∈ ws, d ∈ a
  | [], h => by cases h
  | [a], h => .inr ⟨a, by simp, h⟩
  | a :: b :: r, h => by
    simp only [jw, List.mem_append, List.mem_cons] at h
    rcases h with h | h | h
    · exact .inr ⟨a, by simp, h⟩
    · exact .inl h
    · rcases jw_mem h with q | ⟨x, q1, q2⟩
      · exact .inl q
      · exact .inr ⟨x, List.mem_cons_of_mem _ q1, q2⟩
theorem web_parts {m : Nat} {ts : List (Int × Int)} (hm : m ≤ 6) (hs : ts.Sublist (twos m)) : (∀ a ∈ [fg m] :: ts.map tieW, 32 ∉ a) ∧ Lo (webW m ts) ∧ (webW m ts).length ≤ 100 ∧ 0 < (webW m ts).length := by
  have hl := Nat.le_trans hs.length_le (twos_len m hm)
  have fm := fg_bnd (i := (m : Int)) (by omega) (by omega)
  have tb : ∀ t ∈ ts, (0 ≤ t.1 ∧ t.1 ≤ 6) ∧ 0 ≤ t.2 ∧ t.2 ≤ 6 := fun t ht => by
    obtain ⟨h0, h1, h2⟩ := twos_lt (hs.subset ht)
    omega
  refine ⟨fun a ha => ?_, fun d hd => ?_, ?_, ?_⟩
  · rcases List.mem_cons.mp ha with rfl | ha
    · simp only [List.mem_cons, List.not_mem_nil, or_false]; omega
    · rw [List.mem_map] at ha
      obtain ⟨t, ht, rfl⟩ := ha
      obtain ⟨⟨h0, h1⟩, h2, h3⟩ := tb t ht
      exact tieW_no h0 h1 h2 h3
  · rcases jw_mem hd with rfl | ⟨a, ha, hd⟩
    · decide
    · rcases List.mem_cons.mp ha with rfl | ha
      · simp only [List.mem_cons, List.not_mem_nil, or_false] at hd; omega
      · rw [List.mem_map] at ha
        obtain ⟨t, ht, rfl⟩ := ha
        obtain ⟨⟨h0, h1⟩, h2, h3⟩ := tb t ht
        have a := fg_bnd h0 h1
        have b := fg_bnd h2 h3
        unfold tieW at hd
        simp only [List.mem_cons, List.not_mem_nil, or_false] at hd
        omega
  · have := len_jw 32 ([fg m] :: ts.map tieW)
    rw [List.map_cons, List.sum_cons, sum_three] at this
    unfold webW
    simp only [List.length_cons, List.length_nil, List.length_map] at this
    omega
  · unfold webW
    cases ts with
    | nil => simp [jw]
    | cons t ts => simp [jw]
theorem leq_lt {a b : Int × Int} (h : lexT a b) : cmpF .LtE (tieD b) (tieD a) = some false := by
  show some (leqI [b.1, b.2] [a.1, a.2]) = some false
  have e : leqI [b.1, b.2] [a.1, a.2] = if b.1 = a.1 then (if b.2 = a.2 then true else decide (b.2 ≤ a.2)) else decide (b.1 ≤ a.1) := by
    simp [leqI, Ob.lexAt_succ, Ob.lexAt_zero]
  rw [e]
  unfold lexT at h
  split
  · split
    · exfalso; omega
    · rw [decide_eq_false (by omega)]
  · rw [decide_eq_false (by omega)]
end TL
/-! T37: words searched for, plain -/
namespace TL
open PySem PySem.Spec L2
set_option autoImplicit false
/-- whether a place's letter may come next -/
def mayB (m : Nat) (ts : List (Int × Int)) (w : List Nat) (p most : Nat) : Bool :=
  !decide (w.count (letN p) = most) && (List.range m).all fun o => !(!decide (o = p) && tiedB ts p o) || !decide (lastOf w (letN p) > lastOf w (letN o))
def noneB (m : Nat) (ts : List (Int × Int)) (w : List Nat) (p most : Nat) : Bool :=
  decide (w.count (letN p) < most) || (List.range m).all fun o => !(!decide (o = p) && (!tiedB ts p o && decide (w.count (letN o) = most))) || !altB (two w p o)
def evenF (m : Nat) (ts : List (Int × Int)) (most : Nat) : Nat → List Nat → Option (List Nat)
  | 0, w => some w
  | g + 1, w => (List.range m).findSome? fun p => if mayB m ts w p most && noneB m ts (w ++ [letN p]) p most then evenF m ts most g (w ++ [letN p]) else none
def manyF (m : Nat) (ts : List (Int × Int)) (most : Nat) : Nat → List Nat → Nat
  | 0, _ => 1
  | g + 1, w => ((List.range m).map fun p => if mayB m ts w p most && noneB m ts (w ++ [letN p]) p most then manyF m ts most g (w ++ [letN p]) else 0).sum
def longF (m : Nat) (ts : List (Int × Int)) (size : Nat) : Nat → List Nat → Option (List Nat)
  | 0, w => if (lets m).all (fun c => decide (c ∈ w)) && decide (webOf m w = ts) then some w else none
  | g + 1, w => (List.range m).findSome? fun p => if mayB m ts w p size then longF m ts size g (w ++ [letN p]) else none
theorem long_some {m : Nat} {ts : List (Int × Int)} {size : Nat} : ∀ {g : Nat} {w v : List Nat}, longF m ts size g w = some v → v.length = w.length + g ∧ (∀ c ∈ lets m, c ∈ v) ∧ webOf m v = ts ∧ ((∀ c ∈ w, c ∈ lets m) → m ≤ 6 → ∀ c ∈ v, c ∈ lets m) ∧ ∃ r, v = w ++ r
  | 0, w, v, h => by
    unfold longF at h
    split at h
    · next hc =>
      cases h
      simp only [Bool.and_eq_true, List.all_eq_true, decide_eq_true_eq] at hc
      exact ⟨rfl, hc.1, hc.2, fun h _ => h, [], by simp⟩
    · cases h
  | g + 1, w, v, h => by
    unfold longF at h
    obtain ⟨p, hp, h⟩ := List.exists_of_findSome?_eq_some h
    split at h
    · obtain ⟨h1, h2, h3, h4, r, h5⟩ := long_some h
      rw [List.mem_range] at hp
      refine ⟨by rw [h1]; simp; omega, h2, h3, fun hw hm => h4 (fun c hc => ?_) hm, letN p :: r, by rw [h5]; simp⟩
      rcases List.mem_append.mp hc with q | q
      · exact hw c q
      · simp only [List.mem_cons, List.not_mem_nil, or_false] at q
        subst q
        exact letN_in' (by omega) (by omega) (by omega)
    · cases h
theorem alt_twin (P : Nat) (Y : List Nat) : ∀ X : List Nat, altB (X ++ P :: P :: Y) = false
  | [] => by rw [List.nil_append, altB_cons]; simp
  | [x] => by
    rw [List.cons_append, List.nil_append, altB_cons, altB_cons]
    simp
  | x :: y :: X => by
    have ih := alt_twin P Y (y :: X)
    rw [List.cons_append] at ih
    rw [List.cons_append, List.cons_append, altB_cons, ih]
    simp
theorem last_split {w : List Nat} {c : Nat} (h : c ∈ w) : ∃ A B, w = A ++ c :: B ∧ c ∉ B := by
  obtain ⟨A, B, e, hA⟩ := one_form (w := w.reverse) (c := c) (by simpa using h)
  refine ⟨B.reverse, A.reverse, ?_, by simpa using hA⟩
  have := congrArg List.reverse e
  rw [List.reverse_reverse] at this
  rw [this]
  simp
theorem last_no {w : List Nat} {c : Nat} (h : c ∉ w) : lastOf w c = -1 := by
  unfold lastOf
  rw [pos_no h]
  rfl
theorem last_ge (w : List Nat) (c : Nat) : -1 ≤ lastOf w c := by
  unfold lastOf
  split <;> omega
/-- what takes turns is asked for by turns -/
theorem alt_last {w r : List Nat} {p o : Int} (p0 : 0 ≤ p) (o0 : 0 ≤ o) (hn : p ≠ o) (h : altB (two (w ++ letN p :: r) p o) = true) : ¬ lastOf w (letN p) > lastOf w (letN o) := by
  intro hgt
  have hm : letN p ∈ w := by
    apply Classical.byContradiction
    intro z
    rw [last_no z] at hgt
    have := last_ge w (letN o)
    omega
  obtain ⟨A, B, rfl, hB⟩ := last_split hm
  rw [last_form hB] at hgt
  have hO : letN o ∉ B := fun z => by
    obtain ⟨B1, B2, rfl, hB2⟩ := last_split z
    have e : A ++ letN p :: (B1 ++ letN o :: B2) = (A ++ letN p :: B1) ++ letN o :: B2 := by simp
    rw [e, last_form hB2] at hgt
    simp at hgt
    omega
  have hne : letN p ≠ letN o := letN_inj p0 o0 hn
  have e : two (A ++ letN p :: B ++ letN p :: r) p o = two A p o ++ letN p :: letN p :: two r p o := by
    unfold two
    rw [List.filter_append, List.filter_append, List.filter_cons_of_pos (by simp), List.filter_cons_of_pos (by simp)]
    have : B.filter (fun c => decide (c ∈ [letN p, letN o])) = [] := by
      rw [List.filter_eq_nil_iff]
      intro c hc q
      simp only [List.mem_cons, List.not_mem_nil, or_false, decide_eq_true_eq] at q
      rcases q with rfl | rfl
      · exact hB hc
      · exact hO hc
    rw [this]
    simp
  rw [e, alt_twin] at h
  cases h
theorem find_le {α : Type} {f : Nat → Option α} {p : Nat} {x : α} (hx : f p = some x) : ∀ {L : List Nat}, L.Pairwise (· < ·) → p ∈ L → ∃ q y, q ≤ p ∧ f q = some y ∧ L.findSome? f = some y
  | [], _, h => by cases h
  | a :: L, pw, h => by
    rw [List.pairwise_cons] at pw
    rw [List.findSome?_cons]
    cases ha : f a with
    | some y =>
      refine ⟨a, y, ?_, ha, rfl⟩
      rcases List.mem_cons.mp h with rfl | h
      · exact Nat.le_refl _
      · exact Nat.le_of_lt (pw.1 p h)
    | none =>
      rcases List.mem_cons.mp h with rfl | h
      · rw [ha] at hx; cases hx
      · exact find_le hx pw.2 h
theorem lex_first (w x y : List Nat) {a b : Nat} (h : a < b) : w ++ a :: x < w ++ b :: y := by
  induction w with
  | nil => exact List.cons_lt_cons_iff.mpr (.inl h)
  | cons c w ih => exact List.cons_lt_cons_iff.mpr (.inr ⟨rfl, ih⟩)
theorem may_true {m : Nat} {ts : List (Int × Int)} {w r : List Nat} {p most : Nat} (hp : p < m) (hc : w.count (letN p) ≠ most) (hweb : webOf m (w ++ letN p :: r) = ts) : mayB m ts w p most = true := by
  unfold mayB
  simp only [Bool.and_eq_true, Bool.not_eq_true', decide_eq_false_iff_not, List.all_eq_true, Bool.or_eq_true, List.mem_range]
  refine ⟨hc, fun o ho => ?_⟩
  by_cases e : o = p
  · exact .inl (by simp [e])
  · cases ht : tiedB ts p o with
    | false => exact .inl (by simp)
    | true =>
      refine .inr ?_
      rw [← hweb, tied_web' (by omega) (by omega) (by omega) (by omega) (by omega)] at ht
      exact alt_last (by omega) (by omega) (by omega) ht
theorem long_le {m : Nat} {ts : List (Int × Int)} {size : Nat} (hm : m ≤ 6) : ∀ {g : Nat} {w r : List Nat}, r.length = g → w.length + g = size → (∀ c ∈ w ++ r, c ∈ lets m) → (∀ c ∈ lets m, c ∈ w ++ r) → webOf m (w ++ r) = ts → ∃ u, longF m ts size g w = some u ∧ u ≤ w ++ r
  | 0, w, r, hr, _, h1, h2, h3 => by
    have : r = [] := List.length_eq_zero_iff.mp hr
    subst this
    simp only [List.append_nil] at *
    refine ⟨w, ?_, List.le_refl _⟩
    unfold longF
    rw [if_pos]
    simp only [Bool.and_eq_true, List.all_eq_true, decide_eq_true_eq]
    exact ⟨h2, h3⟩
  | g + 1, w, r, hr, hs, h1, h2, h3 => by
    cases r with
    | nil => simp at hr
    | cons c r =>
      obtain ⟨p, hp, rfl⟩ : ∃ p : Nat, p < m ∧ c = letN p := by
        have hc := h1 c (by simp)
        have key : ∀ m : Nat, m ≤ 6 → ∀ c ∈ lets (m : Int), ∃ p : Nat, p < m ∧ c = letN p := fun m hm c hc => by
          have : ∀ m : Nat, m ≤ 6 → ∀ c ∈ lets (m : Int), 97 ≤ c ∧ c < 97 + m := by decide
          obtain ⟨q1, q2⟩ := this m hm c hc
          exact ⟨c - 97, by omega, by unfold letN; omega⟩
        exact key m hm c hc
      have hcnt : w.count (letN p) ≠ size := by
        have h1 : w.count (letN p) ≤ w.length := List.count_le_length
        rw [List.length_cons] at hr
        omega
      have may := may_true (ts := ts) (most := size) hp hcnt h3
      have e : w ++ letN p :: r = (w ++ [letN p]) ++ r := by simp
      rw [e] at h1 h2 h3 ⊢
      obtain ⟨u, hu, hle⟩ := long_le (ts := ts) (size := size) hm (g := g) (w := w ++ [letN p]) (r := r) (by simpa using hr) (by rw [List.length_append, List.length_singleton]; omega) h1 h2 h3
      obtain ⟨q, y, hq, hy, hf⟩ := find_le (f := fun p => if mayB m ts w p size then longF m ts size g (w ++ [letN p]) else none) (p := p) (x := u) (by simp only [may, if_true]; exact hu) (L := List.range m) List.pairwise_lt_range (List.mem_range.mpr hp)
      refine ⟨y, by unfold longF; exact hf, ?_⟩
      by_cases hqp : q = p
      · subst hqp
        simp only [may, if_true] at hy
        rw [hu] at hy
        cases hy
        exact hle
      · split at hy
        · obtain ⟨_, _, _, _, x, hx⟩ := long_some hy
          rw [hx]
          refine List.le_of_lt ?_
          have := lex_first w x r (a := letN q) (b := letN p) (by unfold letN; omega)
          simpa using this
        · cases hy
end TL
/-! T38: shortest words, webs named otherwise, plain -/
namespace TL
open PySem PySem.Spec L2
set_option autoImplicit false
def subs {α : Type} : List α → List (List α)
  | [] => [[]]
  | a :: l => subs l ++ (subs l).map (a :: ·)
theorem mem_subs {α : Type} {l ts : List α} (h : ts.Sublist l) : ts ∈ subs l := by
  induction h with
  | slnil => simp [subs]
  | cons a _ ih => exact List.mem_append_left _ ih
  | cons_cons a _ ih => exact List.mem_append_right _ (List.mem_map.mpr ⟨_, ih, rfl⟩)
/-- a word of the letters of so many places, each there -/
def isWd (m : Nat) (v : List Nat) : Prop := (∀ c ∈ v, c ∈ lets m) ∧ ∀ c ∈ lets m, c ∈ v
theorem isWd_word {m : Nat} {v : List Nat} (h : isWd m v) : wordB m v = true := by
  unfold wordB
  simp only [Bool.and_eq_true, List.all_eq_true, decide_eq_true_eq]
  exact ⟨h.1, h.2⟩
def evT (m k : Nat) (v : List Nat) : Bool := ((lets m).all fun c => decide (v.count c = k)) && v.all (fun c => decide (c ∈ lets m)) && decide (v.length = k * m)
def ev2 (m : Nat) (ts : List (Int × Int)) : Bool := match evenF m ts 2 (2 * m) [] with
  | some v => decide (webOf m v = ts) && evT m 2 v
  | none => false
def ev1 (m : Nat) (ts : List (Int × Int)) : Bool := match evenF m ts 1 m [] with
  | some v => evT m 1 v && decide (ts.length = m * (m - 1) / 2)
  | none => decide (ts.length < m * (m - 1) / 2)
theorem ev_1 : (subs (twos 1)).all (fun ts => ev1 1 ts && ev2 1 ts) = true := by decide +kernel
theorem ev_2 : (subs (twos 2)).all (fun ts => ev1 2 ts && ev2 2 ts) = true := by decide +kernel
theorem ev_3 : (subs (twos 3)).all (fun ts => ev1 3 ts && ev2 3 ts) = true := by decide +kernel
theorem ev_4 : (subs (twos 4)).all (fun ts => ev1 4 ts && ev2 4 ts) = true := by decide +kernel
theorem ev_all {m : Nat} {ts : List (Int × Int)} (m1 : 1 ≤ m) (m4 : m ≤ 4) (h : ts.Sublist (twos m)) : ev1 m ts = true ∧ ev2 m ts = true := by
  have key : ((subs (twos m)).all fun ts => ev1 m ts && ev2 m ts) = true := by
    rcases (by omega : m = 1 ∨ m = 2 ∨ m = 3 ∨ m = 4) with rfl | rfl | rfl | rfl
    · exact ev_1
    · exact ev_2
    · exact ev_3
    · exact ev_4
  rw [List.all_eq_true] at key
  have := key ts (mem_subs h)
  simpa using this
theorem evT_ok {m k : Nat} {v : List Nat} (k1 : 1 ≤ k) (h : evT m k v = true) : isWd m v ∧ (∀ c ∈ lets m, v.count c = k) ∧ v.length = k * m := by
  unfold evT at h
  simp only [Bool.and_eq_true, List.all_eq_true, decide_eq_true_eq] at h
  obtain ⟨⟨h1, h2⟩, h3⟩ := h
  exact ⟨⟨h2, fun c hc => List.count_pos_iff.mp (by rw [h1 c hc]; omega)⟩, h1, h3⟩
/-- with each letter twice there always is a word -/
theorem twice_ok {m : Nat} {ts : List (Int × Int)} (m1 : 1 ≤ m) (m4 : m ≤ 4) (h : ts.Sublist (twos m)) : ∃ v, evenF m ts 2 (2 * m) [] = some v ∧ webOf m v = ts ∧ isWd m v ∧ (∀ c ∈ lets m, v.count c = 2) ∧ v.length = 2 * m := by
  have h2 := (ev_all m1 m4 h).2
  unfold ev2 at h2
  split at h2
  · next v hv =>
    rw [Bool.and_eq_true, decide_eq_true_eq] at h2
    obtain ⟨a, b, c⟩ := evT_ok (by omega) h2.2
    exact ⟨v, hv, h2.1, a, b, c⟩
  · cases h2
theorem once_ok {m : Nat} {ts : List (Int × Int)} (m1 : 1 ≤ m) (m4 : m ≤ 4) (h : ts.Sublist (twos m)) : (evenF m ts 1 m [] = none ∧ ts.length < m * (m - 1) / 2) ∨ ∃ v, evenF m ts 1 m [] = some v ∧ ¬ ts.length < m * (m - 1) / 2 ∧ isWd m v ∧ (∀ c ∈ lets m, v.count c = 1) ∧ v.length = m := by
  have h1 := (ev_all m1 m4 h).1
  unfold ev1 at h1
  split at h1
  · next v hv =>
    rw [Bool.and_eq_true, decide_eq_true_eq] at h1
    obtain ⟨a, b, c⟩ := evT_ok (by omega) h1.1
    exact .inr ⟨v, hv, by omega, a, b, by omega⟩
  · next hv => exact .inl ⟨hv, of_decide_eq_true h1⟩
/-- the length of a shortest word -/
theorem short_ok {m : Nat} {ts : List (Int × Int)} (m1 : 1 ≤ m) (m4 : m ≤ 4) (h : ts.Sublist (twos m)) : ∃ (L : Nat) (u : List Nat), m ≤ L ∧ L ≤ 2 * m ∧ longF m ts L L [] = some u ∧ (∀ s, m ≤ s → s < L → longF m ts s s [] = none) := by
  obtain ⟨v, _, hv, wd, _, lv⟩ := twice_ok m1 m4 h
  have hs : ∃ u, longF m ts (2 * m) (2 * m) [] = some u := by
    obtain ⟨u, hu, _⟩ := long_le (ts := ts) (size := 2 * m) (by omega) (g := 2 * m) (w := []) (r := v) lv (by simp) wd.1 wd.2 hv
    exact ⟨u, hu⟩
  have go : ∀ d s : Nat, s + d = 2 * m → m ≤ s → (∀ t, m ≤ t → t < s → longF m ts t t [] = none) → ∃ (L : Nat) (u : List Nat), m ≤ L ∧ L ≤ 2 * m ∧ longF m ts L L [] = some u ∧ (∀ s, m ≤ s → s < L → longF m ts s s [] = none) := by
    intro d
    induction d with
    | zero =>
      intro s e hs' hn
      have : s = 2 * m := by omega
      subst this
      obtain ⟨u, hu⟩ := hs
      exact ⟨_, u, hs', Nat.le_refl _, hu, hn⟩
    | succ d ih =>
      intro s e hs' hn
      cases hl : longF m ts s s [] with
      | some u => exact ⟨s, u, hs', by omega, hl, hn⟩
      | none =>
        refine ih (s + 1) (by omega) (by omega) fun t ht hlt => ?_
        by_cases hts : t = s
        · subst hts; exact hl
        · exact hn t ht (by omega)
  exact go m m (by omega) (Nat.le_refl _) fun t a b => absurd b (by omega)
/-- a word of a length shows the web just where one is found -/
theorem long_iff {m s : Nat} {ts : List (Int × Int)} (m6 : m ≤ 6) : (∃ u, longF m ts s s [] = some u) ↔ ∃ v, v.length = s ∧ isWd m v ∧ webOf m v = ts := by
  constructor
  · rintro ⟨u, hu⟩
    obtain ⟨h1, h2, h3, h4, _⟩ := long_some hu
    exact ⟨u, by simpa using h1, ⟨h4 (by simp) m6, h2⟩, h3⟩
  · rintro ⟨v, hv, wd, hw⟩
    obtain ⟨u, hu, _⟩ := long_le (ts := ts) (size := s) m6 (g := s) (w := []) (r := v) hv (by simp) wd.1 wd.2 hw
    exact ⟨u, hu⟩

/-- a loop that ends at the first turn that finds something -/
theorem for_fs {α : Type} {i : Nat} {body : Ro → Mu → RS} {μ : Mu} (g : α → D) (f : α → Option Vl) (I : Ro → Prop) : ∀ (L : List α) (ρ : Ro), I ρ →
    (∀ a ∈ L, ∀ ρ, I ρ → (∀ x, f a = some x → body (ρ.set i (some (.dt (g a)))) μ = .rt x μ) ∧ (f a = none → ∃ ρ2, body (ρ.set i (some (.dt (g a)))) μ = .nx ρ2 μ ∧ I ρ2)) →
    (∃ x, L.findSome? f = some x ∧ forL [i] body (L.map g) ρ μ = .rt x μ) ∨ (L.findSome? f = none ∧ ∃ ρ', forL [i] body (L.map g) ρ μ = .nx ρ' μ ∧ I ρ')
  | [], ρ, h, _ => .inr ⟨rfl, ρ, rfl, h⟩
  | a :: L, ρ, h, H => by
    obtain ⟨h1, h2⟩ := H a (List.mem_cons_self ..) ρ h
    cases hf : f a with
    | some x => exact .inl ⟨x, by simp [hf], by simp [forL, bindT, h1 x hf]⟩
    | none =>
      obtain ⟨ρ2, e, h3⟩ := h2 hf
      have ih := for_fs g f I L ρ2 h3 fun b hb => H b (List.mem_cons_of_mem _ hb)
      simpa [forL, bindT, e, hf] using ih
theorem fs_map {α β δ : Type} (f : α → Option β) (k : β → δ) : ∀ L : List α, L.findSome? (fun p => (f p).map k) = (L.findSome? f).map k
  | [] => rfl
  | a :: L => by
    rw [List.findSome?_cons, List.findSome?_cons, fs_map f k L]
    cases f a <;> rfl
@[simp] theorem isn_s (x : Str) : cmpF .IsNot (.str x) .none = some true := by unfold cmpF; exact id rfl
@[simp] theorem isn_n : cmpF .IsNot .none .none = some false := by unfold cmpF; exact id rfl
@[simp] theorem is_s (x : Str) : cmpF .Is (.str x) .none = some false := by unfold cmpF; exact id rfl
@[simp] theorem is_n : cmpF .Is .none .none = some true := by unfold cmpF; exact id rfl
/-- a word, or None -/
def oW : Option (List Nat) → D
  | some v => .str (Tx v)
  | none => .none
/-- all names: the places in all orders, each as it is picked -/
def picks : Nat → List Int → List (List Int)
  | 0, _ => [[]]
  | n + 1, l => (List.range l.length).flatMap fun i => (picks n (l.eraseIdx i)).map (l.getD i 0 :: ·)
def nmW (o : List Int) (ts : List (Int × Int)) : List (Int × Int) := srtB leP (ts.map (renT o))
def idsI (m : Nat) : List Int := (List.range m).map fun k : Nat => (k : Int)
/-- how long the shortest words are -/
def lenS (m : Nat) (ts : List (Int × Int)) : Option Nat := (List.range (m + 1)).findSome? fun d => match longF m ts (m + d) (m + d) [] with
  | some _ => some (m + d)
  | none => none
theorem lenS_ok {m L : Nat} {u : List Nat} {ts : List (Int × Int)} (h1 : m ≤ L) (h2 : L ≤ 2 * m) (h : longF m ts L L [] = some u) (hn : ∀ s, m ≤ s → s < L → longF m ts s s [] = none) : lenS m ts = some L := by
  unfold lenS
  obtain ⟨d, rfl⟩ : ∃ d, L = m + d := ⟨L - m, by omega⟩
  obtain ⟨k, hk⟩ : ∃ k, m + 1 = d + (k + 1) := ⟨m - d, by omega⟩
  have e : List.range (m + 1) = List.range d ++ d :: (List.range k).map (d + 1 + ·) := by
    rw [hk, List.range_add]
    congr 1
    rw [List.range_succ_eq_map, List.map_cons, List.map_map]
    congr 1
    refine List.map_congr_left fun i _ => ?_
    simp only [Function.comp_apply, Nat.succ_eq_add_one]
    omega
  rw [e, List.findSome?_append]
  have n1 : (List.range d).findSome? (fun d => match longF m ts (m + d) (m + d) [] with | some _ => some (m + d) | none => none) = none := by
    rw [List.findSome?_eq_none_iff]
    intro x hx
    rw [List.mem_range] at hx
    rw [hn (m + x) (by omega) (by omega)]
  rw [n1, List.findSome?_cons, h]
  rfl
def wbs (m : Nat) : List (List (Int × Int)) := subs (twos m)
def tabL : Nat → List Nat
  | 1 => [1]
  | 2 => [3, 2]
  | 3 => [5, 4, 4, 4, 4, 4, 4, 3]
  | _ => [7, 6, 6, 6, 6, 6, 6, 5, 6, 6, 6, 6, 6, 6, 6, 5, 6, 6, 6, 6, 6, 6, 6, 5, 6, 5, 6, 5, 6, 5, 6, 5, 6, 6, 6, 6, 6, 6, 6, 5, 6, 6, 5, 5, 6, 6, 5, 5, 6, 6, 6, 6, 5, 5, 5, 5, 6, 5, 5, 5, 5, 5, 5, 4]
def tabM : Nat → List (Nat × Nat)
  | 1 => [(1, 1)]
  | 2 => [(0, 4), (2, 2)]
  | _ => [(0, 30), (0, 12), (0, 12), (0, 6), (0, 12), (0, 6), (0, 6), (6, 6)]
theorem tl_1 : (wbs 1).map (lenS 1) = (tabL 1).map some := by decide +kernel
theorem tl_2 : (wbs 2).map (lenS 2) = (tabL 2).map some := by decide +kernel
theorem tl_3 : (wbs 3).map (lenS 3) = (tabL 3).map some := by decide +kernel
theorem tl_4 : (wbs 4).map (lenS 4) = (tabL 4).map some := by decide +kernel
theorem tm_1 : (wbs 1).map (fun ts => (manyF 1 ts 1 1 [], manyF 1 ts 2 2 [])) = tabM 1 := by decide +kernel
theorem tm_2 : (wbs 2).map (fun ts => (manyF 2 ts 1 2 [], manyF 2 ts 2 4 [])) = tabM 2 := by decide +kernel
theorem tm_3 : (wbs 3).map (fun ts => (manyF 3 ts 1 3 [], manyF 3 ts 2 6 [])) = tabM 3 := by decide +kernel
/-- a web's place among all -/
def wIx (m : Nat) (ts : List (Int × Int)) : Nat := (wbs m).idxOf ts
def nmOk (m : Nat) : Bool := (picks m (idsI m)).all fun o => (wbs m).all fun ts => decide (nmW o ts ∈ wbs m) && decide ((tabL m).getD (wIx m (nmW o ts)) 0 = (tabL m).getD (wIx m ts) 0) && (decide (3 < m) || decide ((tabM m).getD (wIx m (nmW o ts)) (0, 0) = (tabM m).getD (wIx m ts) (0, 0)))
theorem nm_1 : nmOk 1 = true := by decide +kernel
theorem nm_2 : nmOk 2 = true := by decide +kernel
theorem nm_3 : nmOk 3 = true := by decide +kernel
theorem nm_4 : nmOk 4 = true := by decide +kernel
theorem map_at {α β : Type} [BEq α] [LawfulBEq α] {l : List α} {f : α → β} {r : List β} {a : α} {d : β} (e : l.map f = r) (h : a ∈ l) : f a = r.getD (l.idxOf a) d := by
  subst e
  have hi := List.idxOf_lt_length_of_mem h
  rw [List.getD_eq_getElem?_getD, List.getElem?_map, List.getElem?_eq_getElem hi, List.getElem_idxOf]
  rfl
theorem lenS_tab {m : Nat} {ts : List (Int × Int)} (m1 : 1 ≤ m) (m4 : m ≤ 4) (h : ts ∈ wbs m) : lenS m ts = some ((tabL m).getD (wIx m ts) 0) := by
  have e : (wbs m).map (lenS m) = (tabL m).map some := by
    rcases (by omega : m = 1 ∨ m = 2 ∨ m = 3 ∨ m = 4) with rfl | rfl | rfl | rfl
    · exact tl_1
    · exact tl_2
    · exact tl_3
    · exact tl_4
  have := map_at (d := some 0) e h
  rw [this]
  unfold wIx
  simp only [List.getD_eq_getElem?_getD, List.getElem?_map]
  cases (tabL m)[(wbs m).idxOf ts]? <;> rfl
theorem many_tab {m : Nat} {ts : List (Int × Int)} (m1 : 1 ≤ m) (m3 : m ≤ 3) (h : ts ∈ wbs m) : (manyF m ts 1 (1 * m) [], manyF m ts 2 (2 * m) []) = (tabM m).getD (wIx m ts) (0, 0) := by
  have e : (wbs m).map (fun ts => (manyF m ts 1 (1 * m) [], manyF m ts 2 (2 * m) [])) = tabM m := by
    rcases (by omega : m = 1 ∨ m = 2 ∨ m = 3) with rfl | rfl | rfl
    · exact tm_1
    · exact tm_2
    · exact tm_3
  exact map_at (d := (0, 0)) e h
/-- named otherwise a web has as many words, as long ones -/
theorem nm_ok {m : Nat} {o : List Int} {ts : List (Int × Int)} (m1 : 1 ≤ m) (m4 : m ≤ 4) (ho : o ∈ picks m (idsI m)) (h : ts ∈ wbs m) : nmW o ts ∈ wbs m ∧ lenS m (nmW o ts) = lenS m ts ∧ (m ≤ 3 → (manyF m (nmW o ts) 1 (1 * m) [], manyF m (nmW o ts) 2 (2 * m) []) = (manyF m ts 1 (1 * m) [], manyF m ts 2 (2 * m) [])) := by
  have e : nmOk m = true := by
    rcases (by omega : m = 1 ∨ m = 2 ∨ m = 3 ∨ m = 4) with rfl | rfl | rfl | rfl
    · exact nm_1
    · exact nm_2
    · exact nm_3
    · exact nm_4
  unfold nmOk at e
  rw [List.all_eq_true] at e
  have e := e o ho
  rw [List.all_eq_true] at e
  have e := e ts h
  simp only [Bool.and_eq_true, Bool.or_eq_true, decide_eq_true_eq] at e
  obtain ⟨⟨h1, h2⟩, h3⟩ := e
  refine ⟨h1, by rw [lenS_tab m1 m4 h1, lenS_tab m1 m4 h, h2], fun m3 => ?_⟩
  rw [many_tab m1 m3 h1, many_tab m1 m3 h]
  exact h3.resolve_left (by omega)
/-- the sublists stand in order -/
theorem subs_sub {α : Type} : ∀ {l ts : List α}, ts ∈ subs l → ts.Sublist l
  | [], ts, h => by
    simp only [subs, List.mem_cons, List.not_mem_nil, or_false] at h
    subst h
    exact List.Sublist.refl _
  | a :: l, ts, h => by
    unfold subs at h
    rcases List.mem_append.mp h with h | h
    · exact (subs_sub h).cons a
    · obtain ⟨r, hr, rfl⟩ := List.mem_map.mp h
      exact (subs_sub hr).cons_cons a
end TL
/-! T48: lists of lists: the evaluator's equations -/
namespace TL
open PySem PySem.Spec L2
set_option autoImplicit false
def kIdh (n : Nat) (y : Vl) (μ1 : Mu) : Rs Vl := match y with
  | .dt (.int j) => match μ1[n]? with
    | some (some (.hds ns)) => Rs.of ((atI ns j).map .hd) μ1
    | _ => .bad
  | _ => .bad
section
variable (R : Tb) (γ : Gm)
def uIdh (e : E) (ρ : Ro) (μ : Mu) (o : Option (Option Vl)) : Rs Vl := match o with
  | some (some (.hd n)) => (ev R γ e ρ μ).bind (kIdh n)
  | _ => .bad
def kLol (ds : List D) (μ1 : Mu) : Rs Vl := if sizeLine < ds.length then .bad else .ok (.hd (μ1.length + ds.length)) (lolM μ1 ds.length)
def kZ2 (x y : Vl) (μ2 : Mu) : Rs (List D) := match x, y with
  | .dt (.tuple ds), .dt (.tuple es) => .ok ((ds.zip es).map fun p => .tuple [p.1, p.2]) μ2
  | _, _ => .bad
def kZ1 (b : E) (ρ : Ro) (x : Vl) (μ : Mu) : Rs (List D) := (ev R γ b ρ μ).bind (kZ2 x)
variable {R γ}
section
variable {i j : Nat} {a b e it : E} {ρ : Ro} {μ : Mu}
theorem y_idh : ev R γ (.idh i e) ρ μ = uIdh R γ e ρ μ ρ[i]? := by
  unfold uIdh
  simp only [ev]
  first | done | rfl
@[simp] theorem uIdh_ok {n : Nat} : uIdh R γ e ρ μ (some (some (.hd n))) = (ev R γ e ρ μ).bind (kIdh n) := by
  unfold uIdh
  exact id rfl
theorem y_lol : ev R γ (.lol j it) ρ μ = (evI R γ it ρ μ).bind kLol := by
  simp only [ev]
  first | done | rfl
theorem y_zip : evI R γ (.zip a b) ρ μ = (ev R γ a ρ μ).bind (kZ1 R γ b ρ) := by
  simp only [evI]
  first | done | rfl
theorem kZ2_ok {ds es : List D} : kZ2 (.dt (.tuple ds)) (.dt (.tuple es)) μ = .ok ((ds.zip es).map fun p => .tuple [p.1, p.2]) μ := by
  unfold kZ2
  exact id rfl
end
end
end TL
/-! T49: runs of a web -/
namespace TL
open PySem PySem.Spec L2
set_option autoImplicit false
/-- the places to which p leads -/
def toP (pr : List ((Int × Int) × Int)) (p : Int) : List Int := pr.filterMap fun q => if q.2 = 1 then (if q.1.1 = p then some q.1.2 else none) else (if q.1.2 = p then some q.1.1 else none)
theorem toP_snoc (pr : List ((Int × Int) × Int)) (a : (Int × Int) × Int) (p : Int) : toP (pr ++ [a]) p = toP pr p ++ (if a.2 = 1 then (if a.1.1 = p then [a.1.2] else []) else (if a.1.2 = p then [a.1.1] else [])) := by
  unfold toP
  rw [List.filterMap_append]
  congr 1
  simp only [List.filterMap_cons, List.filterMap_nil]
  split <;> split <;> (try split) <;> simp_all
theorem toP_len (pr : List ((Int × Int) × Int)) (p : Int) : (toP pr p).length ≤ pr.length := List.length_filterMap_le _ _
theorem mem_toP {pr : List ((Int × Int) × Int)} {p x : Int} : x ∈ toP pr p ↔ ∃ q ∈ pr, (q.2 = 1 ∧ q.1.1 = p ∧ q.1.2 = x) ∨ (q.2 ≠ 1 ∧ q.1.2 = p ∧ q.1.1 = x) := by
  unfold toP
  rw [List.mem_filterMap]
  constructor
  · rintro ⟨q, h1, h2⟩
    refine ⟨q, h1, ?_⟩
    by_cases hq : q.2 = 1
    · rw [if_pos hq] at h2
      by_cases h3 : q.1.1 = p
      · rw [if_pos h3] at h2
        exact .inl ⟨hq, h3, Option.some.inj h2⟩
      · rw [if_neg h3] at h2; cases h2
    · rw [if_neg hq] at h2
      by_cases h3 : q.1.2 = p
      · rw [if_pos h3] at h2
        exact .inr ⟨hq, h3, Option.some.inj h2⟩
      · rw [if_neg h3] at h2; cases h2
  · rintro ⟨q, h1, h2⟩
    refine ⟨q, h1, ?_⟩
    rcases h2 with ⟨h2, h3, h4⟩ | ⟨h2, h3, h4⟩
    · rw [if_pos h2, if_pos h3, h4]
    · rw [if_neg h2, if_pos h3, h4]
/-- ties that are places below m -/
def Pl (m : Nat) (ts : List (Int × Int)) : Prop := ∀ t ∈ ts, (0 ≤ t.1 ∧ t.1 < m) ∧ (0 ≤ t.2 ∧ t.2 < m)
theorem pl_sub {m : Nat} {ts : List (Int × Int)} (h : ts.Sublist (twos m)) : Pl m ts := fun t ht => by
  have := twos_lt (h.subset ht)
  omega
theorem toP_pl {m : Nat} {ts : List (Int × Int)} (h : Pl m ts) {run : List Int} {p x : Int} (hx : x ∈ toP (ts.zip run) p) : 0 ≤ x ∧ x < m := by
  obtain ⟨q, h1, h2⟩ := mem_toP.mp hx
  have := h q.1 (List.of_mem_zip (a := q.1) (b := q.2) h1).1
  rcases h2 with ⟨_, _, rfl⟩ | ⟨_, _, rfl⟩ <;> omega
/-- .. as data -/
def toL (m : Nat) (pr : List ((Int × Int) × Int)) : List D := (List.range m).map fun p : Nat => PyData.list ((toP pr p).map .int)
theorem at_toL {m : Nat} {pr : List ((Int × Int) × Int)} {p : Int} (h0 : 0 ≤ p) (h1 : p < m) : atI (toL m pr) p = some (.list ((toP pr p).map .int)) := by
  obtain ⟨k, rfl⟩ := Int.eq_ofNat_of_zero_le h0
  rw [at_nat]
  unfold toL
  rw [List.getElem?_map, List.getElem?_range (by omega)]
  rfl
/-- the store with lists for each place -/
def muL (μ : Mu) (m : Nat) (f : Nat → List Int) : Mu := μ ++ ((List.range m).map fun p => some (.lst ((f p).map .int))) ++ [some (.hds (List.range' μ.length m))]
section
variable {μ : Mu} {m p : Nat} {f : Nat → List Int}
theorem muL_0 : lolM μ m = muL μ m fun _ => [] := by
  unfold lolM muL
  congr 2
  apply List.ext_getElem?
  intro i
  rw [List.getElem?_map]
  by_cases h : i < m
  · rw [List.getElem?_replicate, if_pos h, List.getElem?_range h]
    rfl
  · rw [List.getElem?_replicate, if_neg h, List.getElem?_eq_none (by simpa using h)]
    rfl
theorem muL_at (h : p < m) : (muL μ m f)[μ.length + p]? = some (some (.lst ((f p).map .int))) := by
  unfold muL
  rw [List.getElem?_append_left (by simp; omega), List.getElem?_append_right (by omega), Nat.add_sub_cancel_left, List.getElem?_map, List.getElem?_range h]
  rfl
theorem muL_hd : (muL μ m f)[μ.length + m]? = some (some (.hds (List.range' μ.length m))) := by
  unfold muL
  rw [List.getElem?_append_right (by simp)]
  simp
theorem muL_set {xs : List Int} (h : p < m) : (muL μ m f).set (μ.length + p) (some (.lst (xs.map .int))) = muL μ m fun q => if q = p then xs else f q := by
  unfold muL
  rw [List.set_append_left _ _ (by simp; omega), List.set_append_right _ _ (by omega), Nat.add_sub_cancel_left]
  congr 2
  apply List.ext_getElem?
  intro i
  rw [List.getElem?_map]
  by_cases hi : i < m
  · rw [List.getElem?_range hi]
    by_cases e : i = p
    · subst e
      rw [List.getElem?_set_self (by simpa using hi)]
      simp
    · rw [List.getElem?_set_ne (fun z => e z.symm), List.getElem?_map, List.getElem?_range hi]
      simp [e]
  · rw [List.getElem?_eq_none (by simpa using hi), List.getElem?_eq_none (by simpa using hi)]
    rfl
theorem muL_take : (muL μ m f).take μ.length = μ := by
  unfold muL
  rw [List.append_assoc, List.take_left]
theorem muL_ix (h : p < m) : atI (List.range' μ.length m) (p : Int) = some (μ.length + p) := by
  rw [at_nat, List.getElem?_range' h, Nat.one_mul]
theorem lsts_go (b : Nat) (g : Nat → List D) : ∀ (k a : Nat), b ≤ a → (∀ i, a ≤ i → i < a + k → (muL μ m f)[i]? = some (some (.lst (g i)))) → lstsOf (muL μ m f) b (List.range' a k) = some ((List.range' a k).map fun i => .list (g i))
  | 0, _, _, _ => rfl
  | k + 1, a, h, H => by
    rw [List.range'_succ]
    simp only [lstsOf]
    rw [if_neg (by omega), H a (Nat.le_refl _) (by omega)]
    simp only [lsts_go b g k (a + 1) (by omega) fun i h1 h2 => H i (by omega) (by omega)]
    rfl
theorem muL_lsts : lstsOf (muL μ m f) μ.length (List.range' μ.length m) = some ((List.range m).map fun p : Nat => PyData.list ((f p).map .int)) := by
  rw [lsts_go μ.length (fun i => (f (i - μ.length)).map .int) m μ.length (Nat.le_refl _) fun i h1 h2 => by
    obtain ⟨j, rfl⟩ := Nat.exists_eq_add_of_le h1
    rw [muL_at (by omega), Nat.add_sub_cancel_left]]
  congr 1
  rw [List.range'_eq_map_range, List.map_map]
  refine List.map_congr_left fun i hi => ?_
  simp
theorem fin_lol : finR μ.length (.rt (.hd (μ.length + m)) (muL μ m f)) = .ok (.fr ((List.range m).map fun p : Nat => PyData.list ((f p).map .int))) μ := by
  show (if μ.length + m < μ.length then _ else _) = _
  rw [if_neg (by omega)]
  simp only [muL_hd, muL_lsts, muL_take]
  rfl
theorem isL_muL (h : p < m) : isL (muL μ m f) (.hd (μ.length + p)) = true := by
  unfold isL
  simp only [muL_at h]
theorem kIdh_muL (h : p < m) : kIdh (μ.length + m) (.dt (.int (p : Int))) (muL μ m f) = .ok (.hd (μ.length + p)) (muL μ m f) := by
  unfold kIdh
  simp only [muL_hd, muL_ix h]
  rfl
theorem kApp2_muL {x : Int} (h : p < m) (hl : (f p).length ≤ 1000) : kApp2 (.hd (μ.length + p)) (.dt (.int x)) (muL μ m f) = .ok (.dt .none) (muL μ m fun q => if q = p then f p ++ [x] else f q) := by
  unfold kApp2
  simp only [muL_at h, Vl.data]
  rw [if_pos (szlt (by rw [List.length_map]; omega))]
  have : (List.map PyData.int (f p) ++ [PyData.int x]) = (f p ++ [x]).map .int := by simp
  rw [this, muL_set h]
end
theorem zipD (ts : List (Int × Int)) (run : List Int) : (((ts.map tieD).zip (run.map PyData.int)).map fun p => PyData.tuple [p.1, p.2]) = (ts.zip run).map fun a => .tuple [tieD a.1, .int a.2] := by
  rw [List.zip_map, List.map_map]
  rfl
/-! ### all runs -/
def rawR : Nat → List (List Int)
  | 0 => [[]]
  | k + 1 => (rawR k).map (· ++ [-1]) ++ (rawR k).map (· ++ [1])
theorem rawR_len : ∀ k, (rawR k).length = 2 ^ k
  | 0 => rfl
  | k + 1 => by
    simp only [rawR, List.length_append, List.length_map, rawR_len k]
    omega
theorem rawR_mem : ∀ {k : Nat} {r : List Int}, r ∈ rawR k ↔ r.length = k ∧ ∀ x ∈ r, x = 1 ∨ x = -1
  | 0, r => by
    simp only [rawR, List.mem_singleton]
    constructor
    · rintro rfl
      exact ⟨rfl, fun x h => by cases h⟩
    · rintro ⟨h, _⟩
      exact List.eq_nil_of_length_eq_zero h
  | k + 1, r => by
    simp only [rawR, List.mem_append, List.mem_map]
    constructor
    · rintro (⟨s, hs, rfl⟩ | ⟨s, hs, rfl⟩)
      · obtain ⟨h1, h2⟩ := rawR_mem.mp hs
        refine ⟨by simp [h1], fun x hx => ?_⟩
        rcases List.mem_append.mp hx with h | h
        · exact h2 x h
        · simp at h; exact .inr h
      · obtain ⟨h1, h2⟩ := rawR_mem.mp hs
        refine ⟨by simp [h1], fun x hx => ?_⟩
        rcases List.mem_append.mp hx with h | h
        · exact h2 x h
        · simp at h; exact .inl h
    · rintro ⟨h1, h2⟩
      have hne : r ≠ [] := fun z => by rw [z] at h1; cases h1
      have e := List.dropLast_concat_getLast hne
      have hm : r.dropLast ∈ rawR k := rawR_mem.mpr ⟨by simp [h1], fun x hx => h2 x (List.dropLast_subset _ hx)⟩
      rcases h2 _ (List.getLast_mem hne) with h | h
      · exact .inr ⟨_, hm, by rw [← h]; exact e⟩
      · exact .inl ⟨_, hm, by rw [← h]; exact e⟩
/-- all runs, rising -/
def allR (k : Nat) : List (List Int) := srtB leR (rawR k)
theorem allR_mem {k : Nat} {r : List Int} : r ∈ allR k ↔ r.length = k ∧ ∀ x ∈ r, x = 1 ∨ x = -1 := by
  rw [← rawR_mem]
  exact (srt_perm leR (rawR k)).mem_iff
theorem allR_len (k : Nat) : (allR k).length = 2 ^ k := by rw [← rawR_len]; exact (srt_perm leR (rawR k)).length_eq
theorem leR_tot (a b : List Int) (h : leR a b = false) : leR b a = true := by
  simp only [leR, decide_eq_true_eq, decide_eq_false_iff_not] at *
  rcases List.le_total a b with z | z
  · exact absurd z h
  · exact z
theorem leR_tr (a b c : List Int) (h1 : leR a b = true) (h2 : leR b c = true) : leR a c = true := by
  simp only [leR, decide_eq_true_eq] at *
  exact List.le_trans h1 h2
theorem allR_pw (k : Nat) : (allR k).Pairwise fun a b => leR a b = true := srt_pw leR_tot leR_tr (rawR k)
theorem intsOf_ints : ∀ l : List Int, intsOf (l.map .int) = some l
  | [] => rfl
  | x :: l => by
    rw [List.map_cons, intsOf, intsOf_ints l]
    rfl
theorem tpsOf_rows : ∀ l : List (List Int), tpsOf (l.map rwT) = some l
  | [] => rfl
  | x :: l => by
    have e : tpsOf ((x :: l).map rwT) = match intsOf (x.map .int) with
      | some ns => (tpsOf (l.map rwT)).map (ns :: ·)
      | none => none := rfl
    rw [e, intsOf_ints, tpsOf_rows l]
    rfl
theorem map_int_inj : ∀ {a b : List Int}, a.map PyData.int = b.map PyData.int → a = b
  | [], [], _ => rfl
  | [], _ :: _, h => by cases h
  | _ :: _, [], h => by cases h
  | x :: a, y :: b, h => by
    simp only [List.map_cons, List.cons.injEq, PyData.int.injEq] at h
    rw [h.1, map_int_inj h.2]
theorem rows_prs : ∀ {rs : List (List Int)} {ps : List (Int × Int)}, rs.map rwT = ps.map prD → rs = ps.map fun p => [p.1, p.2]
  | [], [], _ => rfl
  | [], _ :: _, h => by cases h
  | _ :: _, [], h => by cases h
  | r :: rs, p :: ps, h => by
    simp only [List.map_cons, List.cons.injEq] at h
    rw [rows_prs h.2, List.map_cons]
    congr 1
    have h1 := h.1
    unfold rwT prD at h1
    have h2 : r.map PyData.int = [p.1, p.2].map PyData.int := PyData.tuple.inj h1
    exact map_int_inj h2
theorem leP_row (p q : Int × Int) (h : leP p q = true) : [p.1, p.2] ≤ [q.1, q.2] := by
  simp only [leP, decide_eq_true_eq] at h
  rw [List.cons_le_cons_iff]
  rcases h with h | ⟨h1, h2⟩
  · exact .inl h
  · refine .inr ⟨h1, ?_⟩
    rw [List.cons_le_cons_iff]
    rcases Int.lt_or_eq_of_le h2 with h | h
    · exact .inl h
    · exact .inr ⟨h, List.le_refl _⟩
theorem srtF_rows {rs : List (List Int)} (hne : rs ≠ []) (h : (∀ r ∈ rs, r ≠ []) ∨ rs.length ≤ 1) : srtF (rs.map rwT) = some ((srtB leR rs).map rwT) := by
  have e1 : intsOf (rs.map rwT) = none := by
    cases rs with
    | nil => exact absurd rfl hne
    | cons r rs => rfl
  have e2 : strsOf (rs.map rwT) = none := by
    cases rs with
    | nil => exact absurd rfl hne
    | cons r rs => rfl
  unfold srtF
  rw [e1]
  simp only [e2]
  cases hp : prsOf (rs.map rwT) with
  | some ps =>
    have e := rows_prs (prsOf_map hp)
    simp only
    congr 1
    have : srtB leR rs = (srtB leP ps).map fun p => [p.1, p.2] := by
      refine (leR_uniq ?_ ?_).symm
      · rw [e]
        exact (srt_perm leP ps).map _
      · refine List.pairwise_map.mpr ((srt_pw ?_ ?_ ps).imp fun {a b} h => leP_row a b h)
        · intro a b h
          simp only [leP, decide_eq_true_eq, decide_eq_false_iff_not] at *
          omega
        · intro a b c h1 h2
          simp only [leP, decide_eq_true_eq] at *
          omega
    rw [this, List.map_map]
    rfl
  | none =>
    simp only [tpsOf_rows]
    rw [if_pos]
    rcases h with h | h
    · refine .inl (List.all_eq_true.mpr fun r hr => ?_)
      have := h r hr
      cases r with
      | nil => exact absurd rfl this
      | cons _ _ => rfl
    · exact .inr h
theorem bi_srtR (k : Nat) : biF .sorted [.list ((rawR k).map rwT)] = some (.fr ((allR k).map rwT)) := by
  have e : biF .sorted [.list ((rawR k).map rwT)] = (srtF ((rawR k).map rwT)).map .fr := rfl
  rw [e, srtF_rows]
  · rfl
  · intro z
    have := rawR_len k
    rw [z] at this
    have : 0 < 2 ^ k := Nat.two_pow_pos k
    simp at *
    omega
  · by_cases hk : k = 0
    · subst hk
      exact .inr (Nat.le_refl _)
    · refine .inl fun r hr z => ?_
      have := (rawR_mem.mp hr).1
      rw [z] at this
      exact hk this.symm
/-- the least run -/
theorem allR_head (k : Nat) : (allR k).head? = some (List.replicate k (-1)) := by
  have hm : List.replicate k (-1 : Int) ∈ allR k := allR_mem.mpr ⟨by simp, fun x hx => .inr (List.eq_of_mem_replicate hx)⟩
  have hle : ∀ (k : Nat) (r : List Int), r.length = k → (∀ x ∈ r, x = 1 ∨ x = -1) → List.replicate k (-1) ≤ r := by
    intro k
    induction k with
    | zero => intro r h _; rw [List.eq_nil_of_length_eq_zero h]; exact List.le_refl _
    | succ k ih =>
      intro r h hx
      cases r with
      | nil => cases h
      | cons x r =>
        rw [List.replicate_succ, List.cons_le_cons_iff]
        have hr := ih r (by simpa using h) fun y hy => hx y (List.mem_cons_of_mem _ hy)
        rcases hx x (List.mem_cons_self ..) with rfl | rfl
        · exact .inl (by omega)
        · exact .inr ⟨rfl, hr⟩
  have pw := allR_pw k
  have mem : ∀ r, r ∈ allR k → r.length = k ∧ ∀ x ∈ r, x = 1 ∨ x = -1 := fun r h => allR_mem.mp h
  generalize allR k = L at *
  cases L with
  | nil => cases hm
  | cons a L =>
    have ha := mem a (List.mem_cons_self ..)
    have h1 := hle k a ha.1 ha.2
    rcases List.mem_cons.mp hm with e | e
    · rw [e]
      rfl
    · have h2 := (List.pairwise_cons.mp pw).1 _ e
      simp only [leR, decide_eq_true_eq] at h2
      rw [List.le_antisymm h2 h1]
      rfl
/-! ### runs that pass on -/
def passB (m : Nat) (L : Int → List Int) : Bool := (List.range m).all fun a : Nat => (L a).all fun b => (L b).all fun c => decide (c ∈ L a)
/-- for .. : if ..: return False -/
theorem for_all {α : Type} {i : Nat} {body : Ro → Mu → RS} {μ : Mu} (g : α → D) (p : α → Bool) (I : Ro → Prop) (L : List α) (ρ : Ro) (h : I ρ)
    (H : ∀ a ∈ L, ∀ ρ, I ρ → (p a = false → body (ρ.set i (some (.dt (g a)))) μ = .rt (.dt (.bool false)) μ) ∧ (p a = true → ∃ ρ2, body (ρ.set i (some (.dt (g a)))) μ = .nx ρ2 μ ∧ I ρ2)) :
    (L.all p = false ∧ forL [i] body (L.map g) ρ μ = .rt (.dt (.bool false)) μ) ∨ (L.all p = true ∧ ∃ ρ', forL [i] body (L.map g) ρ μ = .nx ρ' μ ∧ I ρ') := by
  rcases for_find (μ := μ) (i := i) (body := body) g (fun a => !p a) (fun _ => .dt (.bool false)) I L ρ h (fun a ha ρ hi => by
    obtain ⟨h1, h2⟩ := H a ha ρ hi
    exact ⟨fun z => h1 (by simpa using z), fun z => h2 (by simpa using z)⟩) with ⟨a, h1, h2⟩ | ⟨h1, ρ', h2, h3⟩
  · refine .inl ⟨?_, h2⟩
    have := List.find?_some h1
    have hm := List.mem_of_find?_eq_some h1
    rw [Bool.eq_false_iff]
    intro z
    have := List.all_eq_true.mp z a hm
    simp_all
  · refine .inr ⟨?_, ρ', h2, h3⟩
    rw [List.find?_eq_none] at h1
    exact List.all_eq_true.mpr fun a ha => by simpa using h1 a ha
end TL
/-! the codes of the law's defs (printed by gen.py), held against the row -/
namespace K33
open PySem PySem.Spec PyProof.Rows L2 TL
set_option autoImplicit false
/-- a statement of the row's top -/
def topS (i : Nat) : Stmt := PySem.Challenge.pw_turnletters_k33_runs_that_pass_on.main.body.getD i (.Pass ⟨0, 0, 0, 0⟩)
def xsR : List Str := ["NoRun", "NoWeb"]
/-- is_whole -/
def f_is_whole : Fn := ⟨["thing"], ["thing"],
  (.cons (.ret (.and (.cons (.isi (.var 0) "int") (.cons (.not (.isi (.var 0) "bool")) .nil))))
    .nil)⟩
/-- is_below -/
def f_is_below : Fn := ⟨["thing", "many"], ["thing", "many"],
  (.cons (.ret (.and (.cons (.call "is_whole" (.cons (.var 0) .nil)) (.cons (.chn .LtE .Lt (.cst (.int 0)) (.var 0) (.var 1)) .nil))))
    .nil)⟩
abbrev f_rises_e1 : E := (.cmp .Lt (.idx (.var 0) (.bin .Sub (.var 1) (.cst (.int 1)))) (.idx (.var 0) (.var 1)))
/-- rises -/
def f_rises : Fn := ⟨["row"], ["row", "at"],
  (.cons (.ret (.bi .all (.cons (.lc [1] (.rng (.cons (.cst (.int 1)) (.cons (.len (.var 0)) .nil))) f_rises_e1) .nil)))
    .nil)⟩
abbrev f_is_tie_e1 : E := (.call "is_below" (.cons (.var 2) (.cons (.var 1) .nil)))
/-- is_tie -/
def f_is_tie : Fn := ⟨["thing", "many"], ["thing", "many", "one"],
  (.cons (.ite (.or (.cons (.not (.isi (.var 0) "tuple")) (.cons (.cmp .NotEq (.len (.var 0)) (.cst (.int 2))) (.cons (.not (.bi .all (.cons (.lc [2] (.itv (.var 0)) f_is_tie_e1) .nil))) .nil)))) (.cons (.ret (.cst (.bool false)))
    .nil) .nil)
    (.cons (.ret (.cmp .Lt (.idx (.var 0) (.cst (.int 0))) (.idx (.var 0) (.cst (.int 1)))))
    .nil))⟩
abbrev f_is_web_e1 : E := (.call "is_tie" (.cons (.var 1) (.cons (.idx (.var 0) (.cst (.int 0))) .nil)))
/-- is_web -/
def f_is_web : Fn := ⟨["thing"], ["thing", "tie"],
  (.cons (.ite (.or (.cons (.not (.isi (.var 0) "tuple")) (.cons (.cmp .NotEq (.len (.var 0)) (.cst (.int 2))) (.cons (.not (.call "is_whole" (.cons (.idx (.var 0) (.cst (.int 0))) .nil))) (.cons (.not (.chn .LtE .LtE (.cst (.int 1)) (.idx (.var 0) (.cst (.int 0))) (.glb "MOST_PLACES"))) .nil))))) (.cons (.ret (.cst (.bool false)))
    .nil) .nil)
    (.cons (.ite (.or (.cons (.not (.isi (.idx (.var 0) (.cst (.int 1))) "tuple")) (.cons (.not (.bi .all (.cons (.lc [1] (.itv (.idx (.var 0) (.cst (.int 1)))) f_is_web_e1) .nil))) .nil))) (.cons (.ret (.cst (.bool false)))
    .nil) .nil)
    (.cons (.ret (.call "rises" (.cons (.idx (.var 0) (.cst (.int 1))) .nil)))
    .nil)))⟩
/-- need_web -/
def f_need_web : Fn := ⟨["web"], ["web"],
  (.cons (.ite (.not (.call "is_web" (.cons (.var 0) .nil))) (.cons (.raise "NoWeb" (.cst (.str "no web")))
    .nil) .nil)
    .nil)⟩
abbrev f_is_run_of_e1 : E := (.and (.cons (.call "is_whole" (.cons (.var 2) .nil)) (.cons (.cmp .In (.var 2) (.tup (.cons (.cst (.int 1)) (.cons (.neg (.cst (.int 1))) .nil)))) .nil)))
/-- is_run_of -/
def f_is_run_of : Fn := ⟨["thing", "web"], ["thing", "web", "one"],
  (.cons (.ite (.or (.cons (.not (.isi (.var 0) "tuple")) (.cons (.cmp .NotEq (.len (.var 0)) (.len (.idx (.var 1) (.cst (.int 1))))) .nil))) (.cons (.ret (.cst (.bool false)))
    .nil) .nil)
    (.cons (.ret (.bi .all (.cons (.lc [2] (.itv (.var 0)) f_is_run_of_e1) .nil)))
    .nil))⟩
/-- need_run -/
def f_need_run : Fn := ⟨["web", "run"], ["web", "run"],
  (.cons (.exp (.call "need_web" (.cons (.var 0) .nil)))
    (.cons (.ite (.not (.call "is_run_of" (.cons (.var 1) (.cons (.var 0) .nil)))) (.cons (.raise "NoRun" (.cst (.str "no run of the web")))
    .nil) .nil)
    .nil))⟩
abbrev f_leads_b1 : S := (.cons (.unp [6, 7] (.ife (.cmp .Eq (.var 5) (.cst (.int 1))) (.var 4) (.rev (.var 4))))
    (.cons (.exp (.app (.idh 2 (.var 6)) (.var 7)))
    .nil))
/-- leads -/
def f_leads : Fn := ⟨["web", "run"], ["web", "run", "found", "place", "tie", "way", "one", "other"],
  (.cons (.asg false 2 (.lol 3 (.rng (.cons (.idx (.var 0) (.cst (.int 0))) .nil))))
    (.cons (.loop [4, 5] (.zip (.idx (.var 0) (.cst (.int 1))) (.var 1)) f_leads_b1)
    (.cons (.ret (.var 2))
    .nil)))⟩
abbrev f_all_runs_e1 : E := (.bin .Add (.var 3) (.tup (.cons (.neg (.cst (.int 1))) .nil)))
abbrev f_all_runs_e2 : E := (.bin .Add (.var 3) (.tup (.cons (.cst (.int 1)) .nil)))
abbrev f_all_runs_b1 : S := (.cons (.asg false 1 (.bin .Add (.lc [3] (.itv (.var 1)) f_all_runs_e1) (.lc [3] (.itv (.var 1)) f_all_runs_e2)))
    .nil)
/-- all_runs -/
def f_all_runs : Fn := ⟨["web"], ["web", "found", "tie", "run"],
  (.cons (.asg false 1 (.lst (.cons (.tup .nil) .nil)))
    (.cons (.loop [2] (.itv (.idx (.var 0) (.cst (.int 1)))) f_all_runs_b1)
    (.cons (.ret (.bi .sorted (.cons (.var 1) .nil)))
    .nil)))⟩
abbrev f_does_pass_e1 : E := (.cmp .In (.var 5) (.idx (.var 2) (.var 3)))
abbrev f_does_pass_b2 : S := (.cons (.ite (.not (.bi .all (.cons (.lc [5] (.itv (.idx (.var 2) (.var 4))) f_does_pass_e1) .nil))) (.cons (.ret (.cst (.bool false)))
    .nil) .nil)
    .nil)
abbrev f_does_pass_b1 : S := (.cons (.loop [4] (.itv (.idx (.var 2) (.var 3))) f_does_pass_b2)
    .nil)
/-- does_pass -/
def f_does_pass : Fn := ⟨["web", "run"], ["web", "run", "to", "one", "other", "place"],
  (.cons (.asg false 2 (.call "leads" (.cons (.var 0) (.cons (.var 1) .nil))))
    (.cons (.loop [3] (.rng (.cons (.idx (.var 0) (.cst (.int 0))) .nil)) f_does_pass_b1)
    (.cons (.ret (.cst (.bool true)))
    .nil)))⟩
/-- passes_on -/
def f_passes_on : Fn := ⟨["web", "run"], ["web", "run"],
  (.cons (.exp (.call "need_run" (.cons (.var 0) (.cons (.var 1) .nil))))
    (.cons (.ret (.call "does_pass" (.cons (.var 0) (.cons (.var 1) .nil))))
    .nil))⟩
abbrev f_first_passing_b1 : S := (.cons (.ite (.call "does_pass" (.cons (.var 0) (.cons (.var 1) .nil))) (.cons (.ret (.var 1))
    .nil) .nil)
    .nil)
/-- first_passing -/
def f_first_passing : Fn := ⟨["web"], ["web", "run"],
  (.cons (.exp (.call "need_web" (.cons (.var 0) .nil)))
    (.cons (.loop [1] (.itv (.call "all_runs" (.cons (.var 0) .nil))) f_first_passing_b1)
    (.cons (.ret (.cst .none))
    .nil)))⟩
/-- _law_cell -/
def f_l_cell : Fn := ⟨["_law_script", "_law_k"], ["_law_script", "_law_k"],
  (.cons (.ite (.cmp .Lt (.var 1) (.len (.var 0))) (.cons (.ret (.idx (.var 0) (.var 1)))
    .nil) .nil)
    (.cons (.ret (.cst (.int 0)))
    .nil))⟩
/-- _law_mix -/
def f_l_mix : Fn := ⟨["_law_cell_here", "_law_k"], ["_law_cell_here", "_law_k", "_law_some", "_law_stir"],
  (.cons (.asg false 2 (.lst (.cons (.cst (.int 48271)) (.cons (.cst (.int 69621)) (.cons (.cst (.int 16807)) (.cons (.cst (.int 39373)) (.cons (.cst (.int 30269)) (.cons (.cst (.int 40014)) (.cons (.cst (.int 40692)) (.cons (.cst (.int 50021)) (.cons (.cst (.int 61687)) (.cons (.cst (.int 71993)) (.cons (.cst (.int 83869)) (.cons (.cst (.int 95561)) (.cons (.cst (.int 30307)) .nil)))))))))))))))
    (.cons (.asg false 3 (.bin .Add (.bin .Add (.bin .Mult (.bin .Add (.bin .Mod (.var 0) (.cst (.int 2147483647))) (.cst (.int 12345))) (.idx (.var 2) (.bin .Mod (.var 1) (.cst (.int 13))))) (.bin .Mult (.cst (.int 977)) (.var 1))) (.bin .Mult (.cst (.int 7919)) (.bin .FloorDiv (.var 1) (.cst (.int 13))))))
    (.cons (.asg false 3 (.bin .Mod (.var 3) (.cst (.int 1000000007))))
    (.cons (.ret (.bin .FloorDiv (.bin .Mod (.bin .Add (.bin .Mult (.var 3) (.var 3)) (.bin .Mult (.cst (.int 48271)) (.var 1))) (.cst (.int 1000000007))) (.cst (.int 7))))
    .nil))))⟩
abbrev f_l_box_b1 : S := (.cons (.asg false 3 (.bin .Add (.bin .Mult (.var 3) (.cst (.int 142857143))) (.call "_law_mix" (.cons (.var 2) (.cons (.var 4) .nil)))))
    .nil)
/-- _law_box -/
def f_l_box : Fn := ⟨["_law_script", "_law_k"], ["_law_script", "_law_k", "_law_cell_here", "_law_number", "_law_j"],
  (.cons (.asg false 2 (.call "_law_cell" (.cons (.var 0) (.cons (.var 1) .nil))))
    (.cons (.ite (.cmp .Eq (.bin .Mod (.var 2) (.cst (.int 2))) (.cst (.int 0))) (.cons (.ret (.lst (.cons (.bin .FloorDiv (.bi .abs (.cons (.var 2) .nil)) (.cst (.int 2))) .nil)))
    .nil) .nil)
    (.cons (.asg false 3 (.cst (.int 0)))
    (.cons (.loop [4] (.rng (.cons (.cst (.int 40)) .nil)) f_l_box_b1)
    (.cons (.ret (.lst (.cons (.var 3) .nil)))
    .nil)))))⟩
/-- _law_take -/
def f_l_take : Fn := ⟨["_law_box_here", "_law_many"], ["_law_box_here", "_law_many", "_law_left", "_law_digit"],
  (.cons (.unp [2, 3] (.bi .divmod (.cons (.idx (.var 0) (.cst (.int 0))) (.cons (.var 1) .nil))))
    (.cons (.six (.var 0) (.cst (.int 0)) (.var 2))
    (.cons (.ret (.var 3))
    .nil)))⟩
/-- _law_truth -/
def f_l_truth : Fn := ⟨["_law_found", "_law_due"], ["_law_found", "_law_due"],
  (.cons (.ret (.and (.cons (.isi (.var 0) "bool") (.cons (.cmp .Eq (.var 0) (.var 1)) .nil))))
    .nil)⟩
abbrev f_l_twos_e1 : E := (.tup (.cons (.var 2) (.cons (.var 3) .nil)))
abbrev f_l_twos_b1 : S := (.cons (.asg false 1 (.bin .Add (.var 1) (.lc [3] (.rng (.cons (.bin .Add (.var 2) (.cst (.int 1))) (.cons (.var 0) .nil))) f_l_twos_e1)))
    .nil)
/-- _law_twos -/
def f_l_twos : Fn := ⟨["_law_many"], ["_law_many", "_law_found", "_law_one", "_law_other"],
  (.cons (.asg false 1 (.lst .nil))
    (.cons (.loop [2] (.rng (.cons (.var 0) .nil)) f_l_twos_b1)
    (.cons (.ret (.var 1))
    .nil)))⟩
abbrev f_l_drawn_web_b1 : S := (.cons (.asg false 6 (.call "_law_take" (.cons (.var 0) (.cons (.cst (.int 3)) .nil))))
    (.cons (.asg false 7 (.lst (.cons (.cmp .Gt (.var 6) (.cst (.int 0))) (.cons (.cmp .Eq (.var 6) (.cst (.int 0))) (.cons (.cst (.bool true)) (.cons (.cmp .In (.bin .Sub (.idx (.var 5) (.cst (.int 1))) (.idx (.var 5) (.cst (.int 0)))) (.tup (.cons (.cst (.int 1)) (.cons (.bin .Sub (.var 2) (.cst (.int 1))) .nil)))) (.cons (.or (.cons (.cmp .Eq (.idx (.var 5) (.cst (.int 0))) (.cst (.int 0))) (.cons (.cmp .Gt (.var 6) (.cst (.int 0))) .nil))) (.cons (.cmp .Lt (.var 6) (.cst (.int 2))) .nil))))))))
    (.cons (.ite (.idx (.var 7) (.var 3)) (.cons (.exp (.app (.var 4) (.var 5)))
    .nil) .nil)
    .nil)))
/-- _law_drawn_web -/
def f_l_drawn_web : Fn := ⟨["_law_box_here", "_law_most"], ["_law_box_here", "_law_most", "_law_many", "_law_kind", "_law_ties", "_law_two", "_law_digit", "_law_some"],
  (.cons (.asg false 2 (.bin .Add (.cst (.int 1)) (.call "_law_take" (.cons (.var 0) (.cons (.var 1) .nil)))))
    (.cons (.asg false 3 (.call "_law_take" (.cons (.var 0) (.cons (.cst (.int 6)) .nil))))
    (.cons (.asg true 4 (.lst .nil))
    (.cons (.loop [5] (.itv (.call "_law_twos" (.cons (.var 2) .nil))) f_l_drawn_web_b1)
    (.cons (.ret (.tup (.cons (.var 2) (.cons (.bi .tuple (.cons (.var 4) .nil)) .nil))))
    .nil)))))⟩
abbrev f_l_to_b1 : S := (.cons (.exp (.app (.idh 2 (.idx (.var 4) (.bi .int (.cons (.cmp .Eq (.var 5) (.neg (.cst (.int 1)))) .nil)))) (.idx (.var 4) (.bi .int (.cons (.cmp .Eq (.var 5) (.cst (.int 1))) .nil)))))
    .nil)
/-- _law_to -/
def f_l_to : Fn := ⟨["_law_web", "_law_run"], ["_law_web", "_law_run", "_law_found", "_law_place", "_law_tie", "_law_way"],
  (.cons (.asg false 2 (.lol 3 (.rng (.cons (.idx (.var 0) (.cst (.int 0))) .nil))))
    (.cons (.loop [4, 5] (.zip (.idx (.var 0) (.cst (.int 1))) (.var 1)) f_l_to_b1)
    (.cons (.ret (.var 2))
    .nil)))⟩
abbrev f_l_runs_e1 : E := (.bin .Add (.var 3) (.tup (.cons (.neg (.cst (.int 1))) .nil)))
abbrev f_l_runs_e2 : E := (.bin .Add (.var 3) (.tup (.cons (.cst (.int 1)) .nil)))
abbrev f_l_runs_b1 : S := (.cons (.asg false 1 (.bin .Add (.lc [3] (.itv (.var 1)) f_l_runs_e1) (.lc [3] (.itv (.var 1)) f_l_runs_e2)))
    .nil)
/-- _law_runs -/
def f_l_runs : Fn := ⟨["_law_web"], ["_law_web", "_law_found", "_law_tie", "_law_run"],
  (.cons (.asg false 1 (.lst (.cons (.tup .nil) .nil)))
    (.cons (.loop [2] (.itv (.idx (.var 0) (.cst (.int 1)))) f_l_runs_b1)
    (.cons (.ret (.bi .sorted (.cons (.var 1) .nil)))
    .nil)))⟩
abbrev f_l_passes_c1 : E := (.cmp .NotIn (.var 5) (.idx (.var 2) (.var 3)))
abbrev f_l_passes_e1 : E := (.var 5)
abbrev f_l_passes_b2 : S := (.cons (.ite (.cmp .NotEq (.lcf [5] (.itv (.idx (.var 2) (.var 4))) f_l_passes_c1 f_l_passes_e1) (.lst .nil)) (.cons (.ret (.cst (.bool false)))
    .nil) .nil)
    .nil)
abbrev f_l_passes_b1 : S := (.cons (.loop [4] (.itv (.idx (.var 2) (.var 3))) f_l_passes_b2)
    .nil)
/-- _law_passes -/
def f_l_passes : Fn := ⟨["_law_web", "_law_run"], ["_law_web", "_law_run", "_law_to_here", "_law_one", "_law_other", "_law_place"],
  (.cons (.asg false 2 (.call "_law_to" (.cons (.var 0) (.cons (.var 1) .nil))))
    (.cons (.loop [3] (.rng (.cons (.idx (.var 0) (.cst (.int 0))) .nil)) f_l_passes_b1)
    (.cons (.ret (.cst (.bool true)))
    .nil)))⟩
abbrev f_l_drawn_run_e1 : E := (.popAt (.var 2) (.call "_law_take" (.cons (.var 0) (.cons (.len (.var 2)) .nil))))
abbrev f_l_drawn_run_e2 : E := (.idx (.lst (.cons (.neg (.cst (.int 1))) (.cons (.cst (.int 1)) .nil))) (.call "_law_take" (.cons (.var 0) (.cons (.cst (.int 2)) .nil))))
abbrev f_l_drawn_run_e3 : E := (.idx (.lst (.cons (.neg (.cst (.int 1))) (.cons (.cst (.int 1)) .nil))) (.bi .int (.cons (.cmp .Lt (.idx (.var 3) (.var 6)) (.idx (.var 3) (.var 7))) .nil)))
/-- _law_drawn_run -/
def f_l_drawn_run : Fn := ⟨["_law_box_here", "_law_web"], ["_law_box_here", "_law_web", "_law_names", "_law_order", "_law_place", "_law_tie", "_law_one", "_law_other"],
  (.cons (.asg true 2 (.lrg (.idx (.var 1) (.cst (.int 0)))))
    (.cons (.asg false 3 (.lc [4] (.rng (.cons (.idx (.var 1) (.cst (.int 0))) .nil)) f_l_drawn_run_e1))
    (.cons (.ite (.cmp .Eq (.call "_law_take" (.cons (.var 0) (.cons (.cst (.int 3)) .nil))) (.cst (.int 0))) (.cons (.ret (.bi .tuple (.cons (.lc [5] (.itv (.idx (.var 1) (.cst (.int 1)))) f_l_drawn_run_e2) .nil)))
    .nil) .nil)
    (.cons (.ret (.bi .tuple (.cons (.lc [6, 7] (.itv (.idx (.var 1) (.cst (.int 1)))) f_l_drawn_run_e3) .nil)))
    .nil))))⟩
abbrev f_law_e1 : E := (.call "_law_drawn_run" (.cons (.var 2) (.cons (.var 3) .nil)))
abbrev f_law_b2 : S := (.cons (.ite (.not (.call "_law_truth" (.cons (.call "passes_on" (.cons (.var 3) (.cons (.var 5) .nil))) (.cons (.call "_law_passes" (.cons (.var 3) (.cons (.var 5) .nil))) .nil)))) (.cons (.ret (.cst (.bool false)))
    .nil) .nil)
    .nil)
abbrev f_law_c1 : E := (.call "_law_passes" (.cons (.var 3) (.cons (.var 5) .nil)))
abbrev f_law_e2 : E := (.var 5)
abbrev f_law_e3 : E := (.call "_law_drawn_run" (.cons (.var 2) (.cons (.var 8) .nil)))
abbrev f_law_b3 : S := (.cons (.ite (.not (.call "_law_truth" (.cons (.call "passes_on" (.cons (.var 8) (.cons (.var 5) .nil))) (.cons (.call "_law_passes" (.cons (.var 8) (.cons (.var 5) .nil))) .nil)))) (.cons (.ret (.cst (.bool false)))
    .nil) .nil)
    .nil)
abbrev f_law_b1 : S := (.cons (.asg true 2 (.call "_law_box" (.cons (.var 0) (.cons (.var 1) .nil))))
    (.cons (.asg false 3 (.call "_law_drawn_web" (.cons (.var 2) (.cons (.cst (.int 5)) .nil))))
    (.cons (.asg false 3 (.tup (.cons (.idx (.var 3) (.cst (.int 0))) (.cons (.slc (.idx (.var 3) (.cst (.int 1))) .nil (.cons (.cst (.int 7)) .nil)) .nil))))
    (.cons (.asg false 4 (.call "_law_runs" (.cons (.var 3) .nil)))
    (.cons (.loop [5] (.itv (.bin .Add (.lc [6] (.rng (.cons (.cst (.int 4)) .nil)) f_law_e1) (.slc (.var 4) .nil (.cons (.cst (.int 1)) .nil)))) f_law_b2)
    (.cons (.asg false 7 (.bin .Add (.lcf [5] (.itv (.var 4)) f_law_c1 f_law_e2) (.lst (.cons (.cst .none) .nil))))
    (.cons (.ite (.cmp .NotEq (.bi .repr (.cons (.call "first_passing" (.cons (.var 3) .nil)) .nil)) (.bi .repr (.cons (.idx (.var 7) (.cst (.int 0))) .nil))) (.cons (.ret (.cst (.bool false)))
    .nil) .nil)
    (.cons (.asg false 8 (.tup (.cons (.cst (.int 6)) (.cons (.bi .tuple (.cons (.slc (.call "_law_twos" (.cons (.cst (.int 6)) .nil)) .nil (.cons (.bin .Add (.cst (.int 11)) (.call "_law_take" (.cons (.var 2) (.cons (.cst (.int 5)) .nil)))) .nil)) .nil)) .nil))))
    (.cons (.loop [5] (.itv (.lc [6] (.rng (.cons (.cst (.int 3)) .nil)) f_law_e3)) f_law_b3)
    .nil)))))))))
/-- law -/
def f_law : Fn := ⟨["_law_script"], ["_law_script", "_law_k", "_law_box_here", "_law_web", "_law_every", "_law_run", "_law_lap", "_law_due", "_law_great", "_law_full"],
  (.cons (.loop [1] (.rng (.cons (.bi .max (.cons (.cst (.int 1)) (.cons (.bi .min (.cons (.len (.var 0)) (.cons (.cst (.int 2)) .nil))) .nil))) .nil)) f_law_b1)
    (.cons (.asg false 9 (.tup (.cons (.cst (.int 6)) (.cons (.bi .tuple (.cons (.call "_law_twos" (.cons (.cst (.int 6)) .nil)) .nil)) .nil))))
    (.cons (.ite (.or (.cons (.cmp .IsNot (.call "passes_on" (.cons (.var 9) (.cons (.bin .Add (.bin .Mult (.tup (.cons (.neg (.cst (.int 1))) .nil)) (.cst (.int 13))) (.tup (.cons (.cst (.int 1)) (.cons (.neg (.cst (.int 1))) .nil)))) .nil))) (.cst (.bool false))) (.cons (.cmp .IsNot (.call "passes_on" (.cons (.var 9) (.cons (.bin .Add (.bin .Mult (.tup (.cons (.neg (.cst (.int 1))) .nil)) (.cst (.int 14))) (.tup (.cons (.cst (.int 1)) .nil))) .nil))) (.cst (.bool true))) .nil))) (.cons (.ret (.cst (.bool false)))
    .nil) .nil)
    (.cons (.ret (.cmp .Eq (.bi .repr (.cons (.call "first_passing" (.cons (.tup (.cons (.cst (.int 6)) (.cons (.slc (.idx (.var 9) (.cst (.int 1))) .nil (.cons (.cst (.int 11)) .nil)) .nil))) .nil)) .nil)) (.bi .repr (.cons (.bin .Mult (.tup (.cons (.neg (.cst (.int 1))) .nil)) (.cst (.int 11))) .nil))))
    .nil))))⟩
def tab : List (Str × Fn) := [("is_whole", f_is_whole), ("is_below", f_is_below), ("rises", f_rises), ("is_tie", f_is_tie), ("is_web", f_is_web), ("need_web", f_need_web), ("is_run_of", f_is_run_of), ("need_run", f_need_run), ("leads", f_leads), ("all_runs", f_all_runs), ("does_pass", f_does_pass), ("passes_on", f_passes_on), ("first_passing", f_first_passing), ("_law_cell", f_l_cell), ("_law_mix", f_l_mix), ("_law_box", f_l_box), ("_law_take", f_l_take), ("_law_truth", f_l_truth), ("_law_twos", f_l_twos), ("_law_drawn_web", f_l_drawn_web), ("_law_to", f_l_to), ("_law_runs", f_l_runs), ("_law_passes", f_l_passes), ("_law_drawn_run", f_l_drawn_run), ("law", f_law)]
def gam : List (Str × D) := [("MOST_PLACES", (.int 6))]
def xs : List Str := ["NoRun", "NoWeb"]
theorem m_f_is_whole : matFn "is_whole" xs f_is_whole (topS 6) = true := by decide +kernel
theorem s_f_is_whole : FnScope f_is_whole.N f_is_whole.ps (defScope (topS 6)) := ⟨rfl, rfl, rfl, by decide +kernel, rfl, by decide +kernel, by decide +kernel⟩
theorem m_f_is_below : matFn "is_below" xs f_is_below (topS 7) = true := by decide +kernel
theorem s_f_is_below : FnScope f_is_below.N f_is_below.ps (defScope (topS 7)) := ⟨rfl, rfl, rfl, by decide +kernel, rfl, by decide +kernel, by decide +kernel⟩
theorem m_f_rises : matFn "rises" xs f_rises (topS 8) = true := by decide +kernel
theorem s_f_rises : FnScope f_rises.N f_rises.ps (defScope (topS 8)) := ⟨rfl, rfl, rfl, by decide +kernel, rfl, by decide +kernel, by decide +kernel⟩
theorem m_f_is_tie : matFn "is_tie" xs f_is_tie (topS 9) = true := by decide +kernel
theorem s_f_is_tie : FnScope f_is_tie.N f_is_tie.ps (defScope (topS 9)) := ⟨rfl, rfl, rfl, by decide +kernel, rfl, by decide +kernel, by decide +kernel⟩
theorem m_f_is_web : matFn "is_web" xs f_is_web (topS 10) = true := by decide +kernel
theorem s_f_is_web : FnScope f_is_web.N f_is_web.ps (defScope (topS 10)) := ⟨rfl, rfl, rfl, by decide +kernel, rfl, by decide +kernel, by decide +kernel⟩
theorem m_f_need_web : matFn "need_web" xs f_need_web (topS 11) = true := by decide +kernel
theorem s_f_need_web : FnScope f_need_web.N f_need_web.ps (defScope (topS 11)) := ⟨rfl, rfl, rfl, by decide +kernel, rfl, by decide +kernel, by decide +kernel⟩
theorem m_f_is_run_of : matFn "is_run_of" xs f_is_run_of (topS 13) = true := by decide +kernel
theorem s_f_is_run_of : FnScope f_is_run_of.N f_is_run_of.ps (defScope (topS 13)) := ⟨rfl, rfl, rfl, by decide +kernel, rfl, by decide +kernel, by decide +kernel⟩
theorem m_f_need_run : matFn "need_run" xs f_need_run (topS 14) = true := by decide +kernel
theorem s_f_need_run : FnScope f_need_run.N f_need_run.ps (defScope (topS 14)) := ⟨rfl, rfl, rfl, by decide +kernel, rfl, by decide +kernel, by decide +kernel⟩
theorem m_f_leads : matFn "leads" xs f_leads (topS 15) = true := by decide +kernel
theorem s_f_leads : FnScope f_leads.N f_leads.ps (defScope (topS 15)) := ⟨rfl, rfl, rfl, by decide +kernel, rfl, by decide +kernel, by decide +kernel⟩
theorem m_f_all_runs : matFn "all_runs" xs f_all_runs (topS 16) = true := by decide +kernel
theorem s_f_all_runs : FnScope f_all_runs.N f_all_runs.ps (defScope (topS 16)) := ⟨rfl, rfl, rfl, by decide +kernel, rfl, by decide +kernel, by decide +kernel⟩
theorem m_f_does_pass : matFn "does_pass" xs f_does_pass (topS 18) = true := by decide +kernel
theorem s_f_does_pass : FnScope f_does_pass.N f_does_pass.ps (defScope (topS 18)) := ⟨rfl, rfl, rfl, by decide +kernel, rfl, by decide +kernel, by decide +kernel⟩
theorem m_f_passes_on : matFn "passes_on" xs f_passes_on (topS 19) = true := by decide +kernel
theorem s_f_passes_on : FnScope f_passes_on.N f_passes_on.ps (defScope (topS 19)) := ⟨rfl, rfl, rfl, by decide +kernel, rfl, by decide +kernel, by decide +kernel⟩
theorem m_f_first_passing : matFn "first_passing" xs f_first_passing (topS 20) = true := by decide +kernel
theorem s_f_first_passing : FnScope f_first_passing.N f_first_passing.ps (defScope (topS 20)) := ⟨rfl, rfl, rfl, by decide +kernel, rfl, by decide +kernel, by decide +kernel⟩
theorem m_f_l_cell : matFn "_law_cell" xs f_l_cell (topS 22) = true := by decide +kernel
theorem s_f_l_cell : FnScope f_l_cell.N f_l_cell.ps (defScope (topS 22)) := ⟨rfl, rfl, rfl, by decide +kernel, rfl, by decide +kernel, by decide +kernel⟩
theorem m_f_l_mix : matFn "_law_mix" xs f_l_mix (topS 23) = true := by decide +kernel
theorem s_f_l_mix : FnScope f_l_mix.N f_l_mix.ps (defScope (topS 23)) := ⟨rfl, rfl, rfl, by decide +kernel, rfl, by decide +kernel, by decide +kernel⟩
theorem m_f_l_box : matFn "_law_box" xs f_l_box (topS 24) = true := by decide +kernel
theorem s_f_l_box : FnScope f_l_box.N f_l_box.ps (defScope (topS 24)) := ⟨rfl, rfl, rfl, by decide +kernel, rfl, by decide +kernel, by decide +kernel⟩
theorem m_f_l_take : matFn "_law_take" xs f_l_take (topS 25) = true := by decide +kernel
theorem s_f_l_take : FnScope f_l_take.N f_l_take.ps (defScope (topS 25)) := ⟨rfl, rfl, rfl, by decide +kernel, rfl, by decide +kernel, by decide +kernel⟩
theorem m_f_l_truth : matFn "_law_truth" xs f_l_truth (topS 26) = true := by decide +kernel
theorem s_f_l_truth : FnScope f_l_truth.N f_l_truth.ps (defScope (topS 26)) := ⟨rfl, rfl, rfl, by decide +kernel, rfl, by decide +kernel, by decide +kernel⟩
theorem m_f_l_twos : matFn "_law_twos" xs f_l_twos (topS 27) = true := by decide +kernel
theorem s_f_l_twos : FnScope f_l_twos.N f_l_twos.ps (defScope (topS 27)) := ⟨rfl, rfl, rfl, by decide +kernel, rfl, by decide +kernel, by decide +kernel⟩
theorem m_f_l_drawn_web : matFn "_law_drawn_web" xs f_l_drawn_web (topS 28) = true := by decide +kernel
theorem s_f_l_drawn_web : FnScope f_l_drawn_web.N f_l_drawn_web.ps (defScope (topS 28)) := ⟨rfl, rfl, rfl, by decide +kernel, rfl, by decide +kernel, by decide +kernel⟩
theorem m_f_l_to : matFn "_law_to" xs f_l_to (topS 29) = true := by decide +kernel
theorem s_f_l_to : FnScope f_l_to.N f_l_to.ps (defScope (topS 29)) := ⟨rfl, rfl, rfl, by decide +kernel, rfl, by decide +kernel, by decide +kernel⟩
theorem m_f_l_runs : matFn "_law_runs" xs f_l_runs (topS 30) = true := by decide +kernel
theorem s_f_l_runs : FnScope f_l_runs.N f_l_runs.ps (defScope (topS 30)) := ⟨rfl, rfl, rfl, by decide +kernel, rfl, by decide +kernel, by decide +kernel⟩
theorem m_f_l_passes : matFn "_law_passes" xs f_l_passes (topS 31) = true := by decide +kernel
theorem s_f_l_passes : FnScope f_l_passes.N f_l_passes.ps (defScope (topS 31)) := ⟨rfl, rfl, rfl, by decide +kernel, rfl, by decide +kernel, by decide +kernel⟩
theorem m_f_l_drawn_run : matFn "_law_drawn_run" xs f_l_drawn_run (topS 32) = true := by decide +kernel
theorem s_f_l_drawn_run : FnScope f_l_drawn_run.N f_l_drawn_run.ps (defScope (topS 32)) := ⟨rfl, rfl, rfl, by decide +kernel, rfl, by decide +kernel, by decide +kernel⟩
theorem m_f_law : matFn "law" xs f_law (topS 33) = true := by decide +kernel
theorem s_f_law : FnScope f_law.N f_law.ps (defScope (topS 33)) := ⟨rfl, rfl, rfl, by decide +kernel, rfl, by decide +kernel, by decide +kernel⟩
theorem top_mk {K : PySem.W.Frag} {h : Heap} {mg : Str → Option Value} (X : K.In h) (G : h.Ns mainGlobals mg) (h0 : DefIn K "is_whole" (topS 6)) (h1 : DefIn K "is_below" (topS 7)) (h2 : DefIn K "rises" (topS 8)) (h3 : DefIn K "is_tie" (topS 9)) (h4 : DefIn K "is_web" (topS 10)) (h5 : DefIn K "need_web" (topS 11)) (h6 : DefIn K "is_run_of" (topS 13)) (h7 : DefIn K "need_run" (topS 14)) (h8 : DefIn K "leads" (topS 15)) (h9 : DefIn K "all_runs" (topS 16)) (h10 : DefIn K "does_pass" (topS 18)) (h11 : DefIn K "passes_on" (topS 19)) (h12 : DefIn K "first_passing" (topS 20)) (h13 : DefIn K "_law_cell" (topS 22)) (h14 : DefIn K "_law_mix" (topS 23)) (h15 : DefIn K "_law_box" (topS 24)) (h16 : DefIn K "_law_take" (topS 25)) (h17 : DefIn K "_law_truth" (topS 26)) (h18 : DefIn K "_law_twos" (topS 27)) (h19 : DefIn K "_law_drawn_web" (topS 28)) (h20 : DefIn K "_law_to" (topS 29)) (h21 : DefIn K "_law_runs" (topS 30)) (h22 : DefIn K "_law_passes" (topS 31)) (h23 : DefIn K "_law_drawn_run" (topS 32)) (h24 : DefIn K "law" (topS 33)) (g0 : GlbIn K "MOST_PLACES" (.int 6)) (x0 : ExcIn K "NoRun") (x1 : ExcIn K "NoWeb") (b : BltIn K) : Top K mg (lookG gam) (lookF tab) xs := by
  refine top_of X G (fun p hp => ?_) (fun p hp => ?_) (fun x hx => ?_) b ?tr (fun z => absurd rfl z)
  · 
    rcases List.mem_cons.mp hp with rfl | hp
    · exact ⟨topS 6, h0, fun _ _ _ _ _ _ us hl => (match us, hl with | [_], _ => rfl), s_f_is_whole, m_f_is_whole⟩
    rcases List.mem_cons.mp hp with rfl | hp
    · exact ⟨topS 7, h1, fun _ _ _ _ _ _ us hl => (match us, hl with | [_, _], _ => rfl), s_f_is_below, m_f_is_below⟩
    rcases List.mem_cons.mp hp with rfl | hp
    · exact ⟨topS 8, h2, fun _ _ _ _ _ _ us hl => (match us, hl with | [_], _ => rfl), s_f_rises, m_f_rises⟩
    rcases List.mem_cons.mp hp with rfl | hp
    · exact ⟨topS 9, h3, fun _ _ _ _ _ _ us hl => (match us, hl with | [_, _], _ => rfl), s_f_is_tie, m_f_is_tie⟩
    rcases List.mem_cons.mp hp with rfl | hp
    · exact ⟨topS 10, h4, fun _ _ _ _ _ _ us hl => (match us, hl with | [_], _ => rfl), s_f_is_web, m_f_is_web⟩
    rcases List.mem_cons.mp hp with rfl | hp
    · exact ⟨topS 11, h5, fun _ _ _ _ _ _ us hl => (match us, hl with | [_], _ => rfl), s_f_need_web, m_f_need_web⟩
    rcases List.mem_cons.mp hp with rfl | hp
    · exact ⟨topS 13, h6, fun _ _ _ _ _ _ us hl => (match us, hl with | [_, _], _ => rfl), s_f_is_run_of, m_f_is_run_of⟩
    rcases List.mem_cons.mp hp with rfl | hp
    · exact ⟨topS 14, h7, fun _ _ _ _ _ _ us hl => (match us, hl with | [_, _], _ => rfl), s_f_need_run, m_f_need_run⟩
    rcases List.mem_cons.mp hp with rfl | hp
    · exact ⟨topS 15, h8, fun _ _ _ _ _ _ us hl => (match us, hl with | [_, _], _ => rfl), s_f_leads, m_f_leads⟩
    rcases List.mem_cons.mp hp with rfl | hp
    · exact ⟨topS 16, h9, fun _ _ _ _ _ _ us hl => (match us, hl with | [_], _ => rfl), s_f_all_runs, m_f_all_runs⟩
    rcases List.mem_cons.mp hp with rfl | hp
    · exact ⟨topS 18, h10, fun _ _ _ _ _ _ us hl => (match us, hl with | [_, _], _ => rfl), s_f_does_pass, m_f_does_pass⟩
    rcases List.mem_cons.mp hp with rfl | hp
    · exact ⟨topS 19, h11, fun _ _ _ _ _ _ us hl => (match us, hl with | [_, _], _ => rfl), s_f_passes_on, m_f_passes_on⟩
    rcases List.mem_cons.mp hp with rfl | hp
    · exact ⟨topS 20, h12, fun _ _ _ _ _ _ us hl => (match us, hl with | [_], _ => rfl), s_f_first_passing, m_f_first_passing⟩
    rcases List.mem_cons.mp hp with rfl | hp
    · exact ⟨topS 22, h13, fun _ _ _ _ _ _ us hl => (match us, hl with | [_, _], _ => rfl), s_f_l_cell, m_f_l_cell⟩
    rcases List.mem_cons.mp hp with rfl | hp
    · exact ⟨topS 23, h14, fun _ _ _ _ _ _ us hl => (match us, hl with | [_, _], _ => rfl), s_f_l_mix, m_f_l_mix⟩
    rcases List.mem_cons.mp hp with rfl | hp
    · exact ⟨topS 24, h15, fun _ _ _ _ _ _ us hl => (match us, hl with | [_, _], _ => rfl), s_f_l_box, m_f_l_box⟩
    rcases List.mem_cons.mp hp with rfl | hp
    · exact ⟨topS 25, h16, fun _ _ _ _ _ _ us hl => (match us, hl with | [_, _], _ => rfl), s_f_l_take, m_f_l_take⟩
    rcases List.mem_cons.mp hp with rfl | hp
    · exact ⟨topS 26, h17, fun _ _ _ _ _ _ us hl => (match us, hl with | [_, _], _ => rfl), s_f_l_truth, m_f_l_truth⟩
    rcases List.mem_cons.mp hp with rfl | hp
    · exact ⟨topS 27, h18, fun _ _ _ _ _ _ us hl => (match us, hl with | [_], _ => rfl), s_f_l_twos, m_f_l_twos⟩
    rcases List.mem_cons.mp hp with rfl | hp
    · exact ⟨topS 28, h19, fun _ _ _ _ _ _ us hl => (match us, hl with | [_, _], _ => rfl), s_f_l_drawn_web, m_f_l_drawn_web⟩
    rcases List.mem_cons.mp hp with rfl | hp
    · exact ⟨topS 29, h20, fun _ _ _ _ _ _ us hl => (match us, hl with | [_, _], _ => rfl), s_f_l_to, m_f_l_to⟩
    rcases List.mem_cons.mp hp with rfl | hp
    · exact ⟨topS 30, h21, fun _ _ _ _ _ _ us hl => (match us, hl with | [_], _ => rfl), s_f_l_runs, m_f_l_runs⟩
    rcases List.mem_cons.mp hp with rfl | hp
    · exact ⟨topS 31, h22, fun _ _ _ _ _ _ us hl => (match us, hl with | [_, _], _ => rfl), s_f_l_passes, m_f_l_passes⟩
    rcases List.mem_cons.mp hp with rfl | hp
    · exact ⟨topS 32, h23, fun _ _ _ _ _ _ us hl => (match us, hl with | [_, _], _ => rfl), s_f_l_drawn_run, m_f_l_drawn_run⟩
    rcases List.mem_cons.mp hp with rfl | hp
    · exact ⟨topS 33, h24, fun _ _ _ _ _ _ us hl => (match us, hl with | [_], _ => rfl), s_f_law, m_f_law⟩
    cases hp
  · 
    rcases List.mem_cons.mp hp with rfl | hp
    · exact g0
    cases hp
  · 
    rcases List.mem_cons.mp hx with rfl | hx
    · exact x0
    rcases List.mem_cons.mp hx with rfl | hx
    · exact x1
    cases hx
  · exact fun z => absurd z (by decide +kernel)
end K33
namespace K33
open PySem PySem.Spec L2 TL
set_option autoImplicit false
abbrev Δ : Str → Option Fn := lookF tab
abbrev γ : Str → Option D := lookG gam
def R (n : Nat) : Str → Option (List Vl → Mu → Rs Vl) := run Δ γ 1000 n
def ap (n : Nat) (f : Str) (xs : List Vl) (μ : Mu) : Rs Vl := match R n f with
  | none => .bad
  | some g => g xs μ
theorem ap_succ {n : Nat} {f : Str} {fn : Fn} {xs : List Vl} {μ : Mu} (h : Δ f = some fn) : ap (n + 1) f xs μ = runFn (R n) γ 1000 fn xs μ := by
  unfold ap R
  rw [run_succ h]
theorem ev_call {n : Nat} {f : Str} {fn : Fn} {es : E} {ρ : Ro} {μ : Mu} (h : Δ f = some fn) : ev (R (n + 1)) γ (.call f es) ρ μ = (evL (R (n + 1)) γ es ρ μ).bind fun xs μ1 => ap (n + 1) f (xs.map Vl.fz) μ1 := by
  have e : R (n + 1) f = some (runFn (run Δ γ 1000 n) γ 1000 fn) := run_succ h
  unfold ap
  simp only [ev, e]
theorem d_is_whole : Δ "is_whole" = some f_is_whole := rfl
theorem d_is_below : Δ "is_below" = some f_is_below := rfl
theorem d_rises : Δ "rises" = some f_rises := rfl
theorem d_is_tie : Δ "is_tie" = some f_is_tie := rfl
theorem d_is_web : Δ "is_web" = some f_is_web := rfl
theorem d_need_web : Δ "need_web" = some f_need_web := rfl
theorem d_is_run_of : Δ "is_run_of" = some f_is_run_of := rfl
theorem d_need_run : Δ "need_run" = some f_need_run := rfl
theorem d_leads : Δ "leads" = some f_leads := rfl
theorem d_all_runs : Δ "all_runs" = some f_all_runs := rfl
theorem d_does_pass : Δ "does_pass" = some f_does_pass := rfl
theorem d_passes_on : Δ "passes_on" = some f_passes_on := rfl
theorem d_first_passing : Δ "first_passing" = some f_first_passing := rfl
theorem d_l_cell : Δ "_law_cell" = some f_l_cell := rfl
theorem d_l_mix : Δ "_law_mix" = some f_l_mix := rfl
theorem d_l_box : Δ "_law_box" = some f_l_box := rfl
theorem d_l_take : Δ "_law_take" = some f_l_take := rfl
theorem d_l_truth : Δ "_law_truth" = some f_l_truth := rfl
theorem d_l_twos : Δ "_law_twos" = some f_l_twos := rfl
theorem d_l_drawn_web : Δ "_law_drawn_web" = some f_l_drawn_web := rfl
theorem d_l_to : Δ "_law_to" = some f_l_to := rfl
theorem d_l_runs : Δ "_law_runs" = some f_l_runs := rfl
theorem d_l_passes : Δ "_law_passes" = some f_l_passes := rfl
theorem d_l_drawn_run : Δ "_law_drawn_run" = some f_l_drawn_run := rfl
theorem d_law : Δ "law" = some f_law := rfl
theorem g_MOST_PLACES : γ "MOST_PLACES" = some (.int 6) := rfl
-- needs: is_whole is_below
@[simp] theorem q_is_whole (n : Nat) (i : Int) (μ : Mu) : ap (n + 1) "is_whole" [.dt (.int i)] μ = .ok (.dt (.bool true)) μ := by
  rw [ap_succ d_is_whole, runFn_ok rfl]
  simp [f_is_whole, szl, Fn.start, bindT, E.isNil, y_Band, y_Bor, y_Bnot, y_Bcmp, y_Bchn, y_Bcall, y_Bisi, y_Bbi, y_Bvar, y_Bmt, y_Blen, y_Bbin, y_Bidx, y_Bcst, y_Blc, y_Blcf, kB2, kB1, kN, kNot, kC2, kC1, kH4, kH3, kH2, kH1, kI2, kI1, TL.kTup, kLst, kX2, kX1, kV3, kV2, kV1, kS3, kS2, kS1, kR, kFr, qE, qB, kL, kLf, kLen, kBi, kIs, kM1, kApp2, kApp1, kExt2, kExt1, kPop, kPat1, kE2, kE1, kP, kRg, kIv, kA2, kO2, kA1, kO1, kTr, sAsg, sUnp, sUnpL, z_unpL, sSix3, sSix2, sSix1, sExp, sRet, sRai, sIte, sFor, y_var, y_cst, y_glb, y_bin, y_neg, y_not, y_cmp, y_chn, y_and, y_or, y_ife, y_tup, y_lst, y_idx, y_slc, y_rvs, y_rev, y_lc, y_lcf, y_len, y_bi, y_isi, y_mt, y_app, y_ext, y_pop, y_pat, y_ln, y_lc1, y_lset, kLs, y_lix, kLx1, kLx2, y_upp, kUp, y_edt, y_srk, kSk, srkV, y_sset, kSs, y_ch3, y_Bch3, kT1, kT2, kT3, kT4, y_idh, kIdh, y_lol, kLol, y_zip, kZ1, kZ2_ok, y_mk, kMk, y_lrg, y_lrg2, kLr, kLr1, kLr2, z_gh, z_swp, sSw1, sSw3, sSw4, sSw5, sSw6, y_pn, y_pc, y_rng, y_itv, y_an, y_on, z_nil, z_cons, z_asg, z_unp, z_six, z_exp, z_ret, z_retN, z_ite, z_for, z_whl, z_rai, z_tryB, c8_rt, c8_nx, cM_rt, cM_nx, z_pass, z_brk, z_cont]
@[simp] theorem q_is_below (n : Nat) (i m : Int) (μ : Mu) : ap (n + 2) "is_below" [.dt (.int i), .dt (.int m)] μ = .ok (.dt (.bool (decide (0 ≤ i) && decide (i < m)))) μ := by
  rw [ap_succ d_is_below, runFn_ok rfl]
  simp [f_is_below, szl, Fn.start, bindT, E.isNil, y_Band, y_Bor, y_Bnot, y_Bcmp, y_Bchn, y_Bcall, y_Bisi, y_Bbi, y_Bvar, y_Bmt, y_Blen, y_Bbin, y_Bidx, y_Bcst, y_Blc, y_Blcf, kB2, kB1, kN, kNot, kC2, kC1, kH4, kH3, kH2, kH1, kI2, kI1, TL.kTup, kLst, kX2, kX1, kV3, kV2, kV1, kS3, kS2, kS1, kR, kFr, qE, qB, kL, kLf, kLen, kBi, kIs, kM1, kApp2, kApp1, kExt2, kExt1, kPop, kPat1, kE2, kE1, kP, kRg, kIv, kA2, kO2, kA1, kO1, kTr, sAsg, sUnp, sUnpL, z_unpL, sSix3, sSix2, sSix1, sExp, sRet, sRai, sIte, sFor, y_var, y_cst, y_glb, y_bin, y_neg, y_not, y_cmp, y_chn, y_and, y_or, y_ife, y_tup, y_lst, y_idx, y_slc, y_rvs, y_rev, y_lc, y_lcf, y_len, y_bi, y_isi, y_mt, y_app, y_ext, y_pop, y_pat, y_ln, y_lc1, y_lset, kLs, y_lix, kLx1, kLx2, y_upp, kUp, y_edt, y_srk, kSk, srkV, y_sset, kSs, y_ch3, y_Bch3, kT1, kT2, kT3, kT4, y_idh, kIdh, y_lol, kLol, y_zip, kZ1, kZ2_ok, y_mk, kMk, y_lrg, y_lrg2, kLr, kLr1, kLr2, z_gh, z_swp, sSw1, sSw3, sSw4, sSw5, sSw6, y_pn, y_pc, y_rng, y_itv, y_an, y_on, z_nil, z_cons, z_asg, z_unp, z_six, z_exp, z_ret, z_retN, z_ite, z_for, z_whl, z_rai, z_tryB, c8_rt, c8_nx, cM_rt, cM_nx, z_pass, z_brk, z_cont, ev_call d_is_whole]
-- needs: is_tie is_below
@[simp] theorem q_is_tie (n : Nat) (t : Int × Int) (m : Int) (μ : Mu) : ap (n + 3) "is_tie" [.dt (tieD t), .dt (.int m)] μ = .ok (.dt (.bool (decide (0 ≤ t.1) && decide (t.1 < m) && (decide (0 ≤ t.2) && decide (t.2 < m)) && decide (t.1 < t.2)))) μ := by
  rw [ap_succ d_is_tie, runFn_ok rfl]
  simp [f_is_tie, szl, Fn.start, bindT, E.isNil, y_Band, y_Bor, y_Bnot, y_Bcmp, y_Bchn, y_Bcall, y_Bisi, y_Bbi, y_Bvar, y_Bmt, y_Blen, y_Bbin, y_Bidx, y_Bcst, y_Blc, y_Blcf, kB2, kB1, kN, kNot, kC2, kC1, kH4, kH3, kH2, kH1, kI2, kI1, TL.kTup, kLst, kX2, kX1, kV3, kV2, kV1, kS3, kS2, kS1, kR, kFr, qE, qB, kL, kLf, kLen, kBi, kIs, kM1, kApp2, kApp1, kExt2, kExt1, kPop, kPat1, kE2, kE1, kP, kRg, kIv, kA2, kO2, kA1, kO1, kTr, sAsg, sUnp, sUnpL, z_unpL, sSix3, sSix2, sSix1, sExp, sRet, sRai, sIte, sFor, y_var, y_cst, y_glb, y_bin, y_neg, y_not, y_cmp, y_chn, y_and, y_or, y_ife, y_tup, y_lst, y_idx, y_slc, y_rvs, y_rev, y_lc, y_lcf, y_len, y_bi, y_isi, y_mt, y_app, y_ext, y_pop, y_pat, y_ln, y_lc1, y_lset, kLs, y_lix, kLx1, kLx2, y_upp, kUp, y_edt, y_srk, kSk, srkV, y_sset, kSs, y_ch3, y_Bch3, kT1, kT2, kT3, kT4, y_idh, kIdh, y_lol, kLol, y_zip, kZ1, kZ2_ok, y_mk, kMk, y_lrg, y_lrg2, kLr, kLr1, kLr2, z_gh, z_swp, sSw1, sSw3, sSw4, sSw5, sSw6, y_pn, y_pc, y_rng, y_itv, y_an, y_on, z_nil, z_cons, z_asg, z_unp, z_six, z_exp, z_ret, z_retN, z_ite, z_for, z_whl, z_rai, z_tryB, c8_rt, c8_nx, cM_rt, cM_nx, z_pass, z_brk, z_cont, ev_call d_is_below, lcL, itemsD, blsOf]
  split <;> simp_all [szl, Fn.start, bindT, E.isNil, y_Band, y_Bor, y_Bnot, y_Bcmp, y_Bchn, y_Bcall, y_Bisi, y_Bbi, y_Bvar, y_Bmt, y_Blen, y_Bbin, y_Bidx, y_Bcst, y_Blc, y_Blcf, kB2, kB1, kN, kNot, kC2, kC1, kH4, kH3, kH2, kH1, kI2, kI1, TL.kTup, kLst, kX2, kX1, kV3, kV2, kV1, kS3, kS2, kS1, kR, kFr, qE, qB, kL, kLf, kLen, kBi, kIs, kM1, kApp2, kApp1, kExt2, kExt1, kPop, kPat1, kE2, kE1, kP, kRg, kIv, kA2, kO2, kA1, kO1, kTr, sAsg, sUnp, sUnpL, z_unpL, sSix3, sSix2, sSix1, sExp, sRet, sRai, sIte, sFor, y_var, y_cst, y_glb, y_bin, y_neg, y_not, y_cmp, y_chn, y_and, y_or, y_ife, y_tup, y_lst, y_idx, y_slc, y_rvs, y_rev, y_lc, y_lcf, y_len, y_bi, y_isi, y_mt, y_app, y_ext, y_pop, y_pat, y_ln, y_lc1, y_lset, kLs, y_lix, kLx1, kLx2, y_upp, kUp, y_edt, y_srk, kSk, srkV, y_sset, kSs, y_ch3, y_Bch3, kT1, kT2, kT3, kT4, y_idh, kIdh, y_lol, kLol, y_zip, kZ1, kZ2_ok, y_mk, kMk, y_lrg, y_lrg2, kLr, kLr1, kLr2, z_gh, z_swp, sSw1, sSw3, sSw4, sSw5, sSw6, y_pn, y_pc, y_rng, y_itv, y_an, y_on, z_nil, z_cons, z_asg, z_unp, z_six, z_exp, z_ret, z_retN, z_ite, z_for, z_whl, z_rai, z_tryB, c8_rt, c8_nx, cM_rt, cM_nx, z_pass, z_brk, z_cont] <;> omega
-- needs: rises
theorem q_rises (n : Nat) (ts : List (Int × Int)) (μ : Mu) (h : ts.length ≤ 1000) : ap (n + 1) "rises" [.dt (.tuple (ts.map tieD))] μ = .ok (.dt (.bool (risesB ts))) μ := by
  rw [ap_succ d_rises, runFn_ok rfl]
  simp [f_rises, szl, Fn.start, bindT, E.isNil, y_Band, y_Bor, y_Bnot, y_Bcmp, y_Bchn, y_Bcall, y_Bisi, y_Bbi, y_Bvar, y_Bmt, y_Blen, y_Bbin, y_Bidx, y_Bcst, y_Blc, y_Blcf, kB2, kB1, kN, kNot, kC2, kC1, kH4, kH3, kH2, kH1, kI2, kI1, TL.kTup, kLst, kX2, kX1, kV3, kV2, kV1, kS3, kS2, kS1, kR, kFr, qE, qB, kL, kLf, kLen, kBi, kIs, kM1, kApp2, kApp1, kExt2, kExt1, kPop, kPat1, kE2, kE1, kP, kRg, kIv, kA2, kO2, kA1, kO1, kTr, sAsg, sUnp, sUnpL, z_unpL, sSix3, sSix2, sSix1, sExp, sRet, sRai, sIte, sFor, y_var, y_cst, y_glb, y_bin, y_neg, y_not, y_cmp, y_chn, y_and, y_or, y_ife, y_tup, y_lst, y_idx, y_slc, y_rvs, y_rev, y_lc, y_lcf, y_len, y_bi, y_isi, y_mt, y_app, y_ext, y_pop, y_pat, y_ln, y_lc1, y_lset, kLs, y_lix, kLx1, kLx2, y_upp, kUp, y_edt, y_srk, kSk, srkV, y_sset, kSs, y_ch3, y_Bch3, kT1, kT2, kT3, kT4, y_idh, kIdh, y_lol, kLol, y_zip, kZ1, kZ2_ok, y_mk, kMk, y_lrg, y_lrg2, kLr, kLr1, kLr2, z_gh, z_swp, sSw1, sSw3, sSw4, sSw5, sSw6, y_pn, y_pc, y_rng, y_itv, y_an, y_on, z_nil, z_cons, z_asg, z_unp, z_six, z_exp, z_ret, z_retN, z_ite, z_for, z_whl, z_rai, z_tryB, c8_rt, c8_nx, cM_rt, cM_nx, z_pass, z_brk, z_cont, rg_2 _ _ (show -(2 ^ 62) ≤ (1 : Int) ∧ (1 : Int) < 2 ^ 62 ∧ -(2 ^ 62) ≤ (ts.length : Int) ∧ (ts.length : Int) < 2 ^ 62 by omega)]
  rw [if_neg (szn (by omega))]
  unfold rangeL
  rw [lcm _ (fun k : Nat => .bool (HT.lexLt [(ts.getD k (0, 0)).1, (ts.getD k (0, 0)).2] [(ts.getD (k + 1) (0, 0)).1, (ts.getD (k + 1) (0, 0)).2]))]
  · have e : ((ts.length : Int) - 1).toNat = ts.length - 1 := by omega
    simp [szl, Fn.start, bindT, E.isNil, y_Band, y_Bor, y_Bnot, y_Bcmp, y_Bchn, y_Bcall, y_Bisi, y_Bbi, y_Bvar, y_Bmt, y_Blen, y_Bbin, y_Bidx, y_Bcst, y_Blc, y_Blcf, kB2, kB1, kN, kNot, kC2, kC1, kH4, kH3, kH2, kH1, kI2, kI1, TL.kTup, kLst, kX2, kX1, kV3, kV2, kV1, kS3, kS2, kS1, kR, kFr, qE, qB, kL, kLf, kLen, kBi, kIs, kM1, kApp2, kApp1, kExt2, kExt1, kPop, kPat1, kE2, kE1, kP, kRg, kIv, kA2, kO2, kA1, kO1, kTr, sAsg, sUnp, sUnpL, z_unpL, sSix3, sSix2, sSix1, sExp, sRet, sRai, sIte, sFor, y_var, y_cst, y_glb, y_bin, y_neg, y_not, y_cmp, y_chn, y_and, y_or, y_ife, y_tup, y_lst, y_idx, y_slc, y_rvs, y_rev, y_lc, y_lcf, y_len, y_bi, y_isi, y_mt, y_app, y_ext, y_pop, y_pat, y_ln, y_lc1, y_lset, kLs, y_lix, kLx1, kLx2, y_upp, kUp, y_edt, y_srk, kSk, srkV, y_sset, kSs, y_ch3, y_Bch3, kT1, kT2, kT3, kT4, y_idh, kIdh, y_lol, kLol, y_zip, kZ1, kZ2_ok, y_mk, kMk, y_lrg, y_lrg2, kLr, kLr1, kLr2, z_gh, z_swp, sSw1, sSw3, sSw4, sSw5, sSw6, y_pn, y_pc, y_rng, y_itv, y_an, y_on, z_nil, z_cons, z_asg, z_unp, z_six, z_exp, z_ret, z_retN, z_ite, z_for, z_whl, z_rai, z_tryB, c8_rt, c8_nx, cM_rt, cM_nx, z_pass, z_brk, z_cont, e, risesB]
  · intro k hk
    rw [List.mem_range] at hk
    have e1 : (1 + (k : Int) - 1) = ((k : Nat) : Int) := by omega
    have e2 : (1 + (k : Int)) = ((k + 1 : Nat) : Int) := by omega
    have g1 : k < ts.length := by omega
    have g2 : k + 1 < ts.length := by omega
    have h1 : atI (ts.map tieD) (1 + (k : Int) - 1) = some (tieD (ts.getD k (0, 0))) := by
      rw [e1, at_nat]
      simp [g1, List.getD]
    have h2 : atI (ts.map tieD) (1 + (k : Int)) = some (tieD (ts.getD (k + 1) (0, 0))) := by
      rw [e2, at_nat]
      simp [g2, List.getD]
    simp [szl, Fn.start, bindT, E.isNil, y_Band, y_Bor, y_Bnot, y_Bcmp, y_Bchn, y_Bcall, y_Bisi, y_Bbi, y_Bvar, y_Bmt, y_Blen, y_Bbin, y_Bidx, y_Bcst, y_Blc, y_Blcf, kB2, kB1, kN, kNot, kC2, kC1, kH4, kH3, kH2, kH1, kI2, kI1, TL.kTup, kLst, kX2, kX1, kV3, kV2, kV1, kS3, kS2, kS1, kR, kFr, qE, qB, kL, kLf, kLen, kBi, kIs, kM1, kApp2, kApp1, kExt2, kExt1, kPop, kPat1, kE2, kE1, kP, kRg, kIv, kA2, kO2, kA1, kO1, kTr, sAsg, sUnp, sUnpL, z_unpL, sSix3, sSix2, sSix1, sExp, sRet, sRai, sIte, sFor, y_var, y_cst, y_glb, y_bin, y_neg, y_not, y_cmp, y_chn, y_and, y_or, y_ife, y_tup, y_lst, y_idx, y_slc, y_rvs, y_rev, y_lc, y_lcf, y_len, y_bi, y_isi, y_mt, y_app, y_ext, y_pop, y_pat, y_ln, y_lc1, y_lset, kLs, y_lix, kLx1, kLx2, y_upp, kUp, y_edt, y_srk, kSk, srkV, y_sset, kSs, y_ch3, y_Bch3, kT1, kT2, kT3, kT4, y_idh, kIdh, y_lol, kLol, y_zip, kZ1, kZ2_ok, y_mk, kMk, y_lrg, y_lrg2, kLr, kLr1, kLr2, z_gh, z_swp, sSw1, sSw3, sSw4, sSw5, sSw6, y_pn, y_pc, y_rng, y_itv, y_an, y_on, z_nil, z_cons, z_asg, z_unp, z_six, z_exp, z_ret, z_retN, z_ite, z_for, z_whl, z_rai, z_tryB, c8_rt, c8_nx, cM_rt, cM_nx, z_pass, z_brk, z_cont, h1, h2]
-- needs: rises
theorem q_rises_i (n : Nat) (ps : List Int) (μ : Mu) (h : ps.length ≤ 1000) : ap (n + 1) "rises" [.dt (.tuple (ps.map .int))] μ = .ok (.dt (.bool (risesI ps))) μ := by
  have hr := rg_from1 ps.length (by omega)
  have hz : ¬ sizeLine < ps.length - 1 := szn (by omega)
  have hl : ∀ y : Option Vl, lcL [1] none (qE (R n) γ f_rises_e1) [some (.dt (.tuple (ps.map .int))), y] (rangeL 1 (ps.length - 1)) μ = .ok ((List.range (ps.length - 1)).map fun k : Nat => .bool (decide (ps.getD k 0 < ps.getD (k + 1) 0))) μ := fun y => by
    refine lcm _ _ _ fun k hk => ?_
    rw [List.mem_range] at hk
    have g1 : k < ps.length := by omega
    have g2 : k + 1 < ps.length := by omega
    have h1 : atI (ps.map PyData.int) (1 + (k : Int) - 1) = some (.int (ps.getD k 0)) := by
      rw [show (1 + (k : Int) - 1) = ((k : Nat) : Int) by omega, at_nat]
      simp [g1, List.getD]
    have h2 : atI (ps.map PyData.int) (1 + (k : Int)) = some (.int (ps.getD (k + 1) 0)) := by
      rw [show (1 + (k : Int)) = ((k + 1 : Nat) : Int) by omega, at_nat]
      simp [g2, List.getD]
    simp [szl, Fn.start, bindT, E.isNil, y_Band, y_Bor, y_Bnot, y_Bcmp, y_Bchn, y_Bcall, y_Bisi, y_Bbi, y_Bvar, y_Bmt, y_Blen, y_Bbin, y_Bidx, y_Bcst, y_Blc, y_Blcf, kB2, kB1, kN, kNot, kC2, kC1, kH4, kH3, kH2, kH1, kI2, kI1, TL.kTup, kLst, kX2, kX1, kV3, kV2, kV1, kS3, kS2, kS1, kR, kFr, qE, qB, kL, kLf, kLen, kBi, kIs, kM1, kApp2, kApp1, kExt2, kExt1, kPop, kPat1, kE2, kE1, kP, kRg, kIv, kA2, kO2, kA1, kO1, kTr, sAsg, sUnp, sUnpL, z_unpL, sSix3, sSix2, sSix1, sExp, sRet, sRai, sIte, sFor, y_var, y_cst, y_glb, y_bin, y_neg, y_not, y_cmp, y_chn, y_and, y_or, y_ife, y_tup, y_lst, y_idx, y_slc, y_rvs, y_rev, y_lc, y_lcf, y_len, y_bi, y_isi, y_mt, y_app, y_ext, y_pop, y_pat, y_ln, y_lc1, y_lset, kLs, y_lix, kLx1, kLx2, y_upp, kUp, y_edt, y_srk, kSk, srkV, y_sset, kSs, y_ch3, y_Bch3, kT1, kT2, kT3, kT4, y_idh, kIdh, y_lol, kLol, y_zip, kZ1, kZ2_ok, y_mk, kMk, y_lrg, y_lrg2, kLr, kLr1, kLr2, z_gh, z_swp, sSw1, sSw3, sSw4, sSw5, sSw6, y_pn, y_pc, y_rng, y_itv, y_an, y_on, z_nil, z_cons, z_asg, z_unp, z_six, z_exp, z_ret, z_retN, z_ite, z_for, z_whl, z_rai, z_tryB, c8_rt, c8_nx, cM_rt, cM_nx, z_pass, z_brk, z_cont, h1, h2, -List.getD_eq_getElem?_getD]
  rw [ap_succ d_rises, runFn_ok rfl]
  simp [f_rises, szl, Fn.start, bindT, E.isNil, y_Band, y_Bor, y_Bnot, y_Bcmp, y_Bchn, y_Bcall, y_Bisi, y_Bbi, y_Bvar, y_Bmt, y_Blen, y_Bbin, y_Bidx, y_Bcst, y_Blc, y_Blcf, kB2, kB1, kN, kNot, kC2, kC1, kH4, kH3, kH2, kH1, kI2, kI1, TL.kTup, kLst, kX2, kX1, kV3, kV2, kV1, kS3, kS2, kS1, kR, kFr, qE, qB, kL, kLf, kLen, kBi, kIs, kM1, kApp2, kApp1, kExt2, kExt1, kPop, kPat1, kE2, kE1, kP, kRg, kIv, kA2, kO2, kA1, kO1, kTr, sAsg, sUnp, sUnpL, z_unpL, sSix3, sSix2, sSix1, sExp, sRet, sRai, sIte, sFor, y_var, y_cst, y_glb, y_bin, y_neg, y_not, y_cmp, y_chn, y_and, y_or, y_ife, y_tup, y_lst, y_idx, y_slc, y_rvs, y_rev, y_lc, y_lcf, y_len, y_bi, y_isi, y_mt, y_app, y_ext, y_pop, y_pat, y_ln, y_lc1, y_lset, kLs, y_lix, kLx1, kLx2, y_upp, kUp, y_edt, y_srk, kSk, srkV, y_sset, kSs, y_ch3, y_Bch3, kT1, kT2, kT3, kT4, y_idh, kIdh, y_lol, kLol, y_zip, kZ1, kZ2_ok, y_mk, kMk, y_lrg, y_lrg2, kLr, kLr1, kLr2, z_gh, z_swp, sSw1, sSw3, sSw4, sSw5, sSw6, y_pn, y_pc, y_rng, y_itv, y_an, y_on, z_nil, z_cons, z_asg, z_unp, z_six, z_exp, z_ret, z_retN, z_ite, z_for, z_whl, z_rai, z_tryB, c8_rt, c8_nx, cM_rt, cM_nx, z_pass, z_brk, z_cont, hr, hz, hl, risesI, -List.getD_eq_getElem?_getD]
-- needs: is_web is_tie rises is_whole need_web
theorem q_is_web (n : Nat) (m : Int) (ts : List (Int × Int)) (μ : Mu) (h : ts.length ≤ 1000) : ap (n + 4) "is_web" [.dt (webD m ts)] μ = .ok (.dt (.bool (webB m ts))) μ := by
  have hl : ∀ (y : Option Vl), lcL [1] none (qE (R (n + 3)) γ (.call "is_tie" (.cons (.var 1) (.cons (.idx (.var 0) (.cst (.int 0))) .nil)))) [some (.dt (webD m ts)), y] (ts.map tieD) μ = .ok (ts.map fun t => .bool (tieB m t)) μ := fun y =>
    lcm _ _ _ fun t ht => by simp [szl, Fn.start, bindT, E.isNil, y_Band, y_Bor, y_Bnot, y_Bcmp, y_Bchn, y_Bcall, y_Bisi, y_Bbi, y_Bvar, y_Bmt, y_Blen, y_Bbin, y_Bidx, y_Bcst, y_Blc, y_Blcf, kB2, kB1, kN, kNot, kC2, kC1, kH4, kH3, kH2, kH1, kI2, kI1, TL.kTup, kLst, kX2, kX1, kV3, kV2, kV1, kS3, kS2, kS1, kR, kFr, qE, qB, kL, kLf, kLen, kBi, kIs, kM1, kApp2, kApp1, kExt2, kExt1, kPop, kPat1, kE2, kE1, kP, kRg, kIv, kA2, kO2, kA1, kO1, kTr, sAsg, sUnp, sUnpL, z_unpL, sSix3, sSix2, sSix1, sExp, sRet, sRai, sIte, sFor, y_var, y_cst, y_glb, y_bin, y_neg, y_not, y_cmp, y_chn, y_and, y_or, y_ife, y_tup, y_lst, y_idx, y_slc, y_rvs, y_rev, y_lc, y_lcf, y_len, y_bi, y_isi, y_mt, y_app, y_ext, y_pop, y_pat, y_ln, y_lc1, y_lset, kLs, y_lix, kLx1, kLx2, y_upp, kUp, y_edt, y_srk, kSk, srkV, y_sset, kSs, y_ch3, y_Bch3, kT1, kT2, kT3, kT4, y_idh, kIdh, y_lol, kLol, y_zip, kZ1, kZ2_ok, y_mk, kMk, y_lrg, y_lrg2, kLr, kLr1, kLr2, z_gh, z_swp, sSw1, sSw3, sSw4, sSw5, sSw6, y_pn, y_pc, y_rng, y_itv, y_an, y_on, z_nil, z_cons, z_asg, z_unp, z_six, z_exp, z_ret, z_retN, z_ite, z_for, z_whl, z_rai, z_tryB, c8_rt, c8_nx, cM_rt, cM_nx, z_pass, z_brk, z_cont, ev_call d_is_tie, tieB]
  rw [ap_succ d_is_web, runFn_ok rfl]
  have ha : (ts.map (tieB m)).all id = ts.all (tieB m) := by simp [List.all_map]
  have hz : ¬ sizeLine < ts.length := szn (by omega)
  by_cases h1 : 1 ≤ m
  · by_cases h2 : m ≤ 6
    · cases h3 : ts.all (tieB m) <;> simp [f_is_web, h1, h2, h3, ha, hl, hz, szl, Fn.start, bindT, E.isNil, y_Band, y_Bor, y_Bnot, y_Bcmp, y_Bchn, y_Bcall, y_Bisi, y_Bbi, y_Bvar, y_Bmt, y_Blen, y_Bbin, y_Bidx, y_Bcst, y_Blc, y_Blcf, kB2, kB1, kN, kNot, kC2, kC1, kH4, kH3, kH2, kH1, kI2, kI1, TL.kTup, kLst, kX2, kX1, kV3, kV2, kV1, kS3, kS2, kS1, kR, kFr, qE, qB, kL, kLf, kLen, kBi, kIs, kM1, kApp2, kApp1, kExt2, kExt1, kPop, kPat1, kE2, kE1, kP, kRg, kIv, kA2, kO2, kA1, kO1, kTr, sAsg, sUnp, sUnpL, z_unpL, sSix3, sSix2, sSix1, sExp, sRet, sRai, sIte, sFor, y_var, y_cst, y_glb, y_bin, y_neg, y_not, y_cmp, y_chn, y_and, y_or, y_ife, y_tup, y_lst, y_idx, y_slc, y_rvs, y_rev, y_lc, y_lcf, y_len, y_bi, y_isi, y_mt, y_app, y_ext, y_pop, y_pat, y_ln, y_lc1, y_lset, kLs, y_lix, kLx1, kLx2, y_upp, kUp, y_edt, y_srk, kSk, srkV, y_sset, kSs, y_ch3, y_Bch3, kT1, kT2, kT3, kT4, y_idh, kIdh, y_lol, kLol, y_zip, kZ1, kZ2_ok, y_mk, kMk, y_lrg, y_lrg2, kLr, kLr1, kLr2, z_gh, z_swp, sSw1, sSw3, sSw4, sSw5, sSw6, y_pn, y_pc, y_rng, y_itv, y_an, y_on, z_nil, z_cons, z_asg, z_unp, z_six, z_exp, z_ret, z_retN, z_ite, z_for, z_whl, z_rai, z_tryB, c8_rt, c8_nx, cM_rt, cM_nx, z_pass, z_brk, z_cont, ev_call d_is_whole, ev_call d_rises, g_MOST_PLACES, q_rises, h, webB, -List.all_map, -List.all_eq_true, -List.all_eq_false]
    · simp [f_is_web, szl, Fn.start, bindT, E.isNil, y_Band, y_Bor, y_Bnot, y_Bcmp, y_Bchn, y_Bcall, y_Bisi, y_Bbi, y_Bvar, y_Bmt, y_Blen, y_Bbin, y_Bidx, y_Bcst, y_Blc, y_Blcf, kB2, kB1, kN, kNot, kC2, kC1, kH4, kH3, kH2, kH1, kI2, kI1, TL.kTup, kLst, kX2, kX1, kV3, kV2, kV1, kS3, kS2, kS1, kR, kFr, qE, qB, kL, kLf, kLen, kBi, kIs, kM1, kApp2, kApp1, kExt2, kExt1, kPop, kPat1, kE2, kE1, kP, kRg, kIv, kA2, kO2, kA1, kO1, kTr, sAsg, sUnp, sUnpL, z_unpL, sSix3, sSix2, sSix1, sExp, sRet, sRai, sIte, sFor, y_var, y_cst, y_glb, y_bin, y_neg, y_not, y_cmp, y_chn, y_and, y_or, y_ife, y_tup, y_lst, y_idx, y_slc, y_rvs, y_rev, y_lc, y_lcf, y_len, y_bi, y_isi, y_mt, y_app, y_ext, y_pop, y_pat, y_ln, y_lc1, y_lset, kLs, y_lix, kLx1, kLx2, y_upp, kUp, y_edt, y_srk, kSk, srkV, y_sset, kSs, y_ch3, y_Bch3, kT1, kT2, kT3, kT4, y_idh, kIdh, y_lol, kLol, y_zip, kZ1, kZ2_ok, y_mk, kMk, y_lrg, y_lrg2, kLr, kLr1, kLr2, z_gh, z_swp, sSw1, sSw3, sSw4, sSw5, sSw6, y_pn, y_pc, y_rng, y_itv, y_an, y_on, z_nil, z_cons, z_asg, z_unp, z_six, z_exp, z_ret, z_retN, z_ite, z_for, z_whl, z_rai, z_tryB, c8_rt, c8_nx, cM_rt, cM_nx, z_pass, z_brk, z_cont, ev_call d_is_whole, g_MOST_PLACES, h1, h2, webB]
  · simp [f_is_web, szl, Fn.start, bindT, E.isNil, y_Band, y_Bor, y_Bnot, y_Bcmp, y_Bchn, y_Bcall, y_Bisi, y_Bbi, y_Bvar, y_Bmt, y_Blen, y_Bbin, y_Bidx, y_Bcst, y_Blc, y_Blcf, kB2, kB1, kN, kNot, kC2, kC1, kH4, kH3, kH2, kH1, kI2, kI1, TL.kTup, kLst, kX2, kX1, kV3, kV2, kV1, kS3, kS2, kS1, kR, kFr, qE, qB, kL, kLf, kLen, kBi, kIs, kM1, kApp2, kApp1, kExt2, kExt1, kPop, kPat1, kE2, kE1, kP, kRg, kIv, kA2, kO2, kA1, kO1, kTr, sAsg, sUnp, sUnpL, z_unpL, sSix3, sSix2, sSix1, sExp, sRet, sRai, sIte, sFor, y_var, y_cst, y_glb, y_bin, y_neg, y_not, y_cmp, y_chn, y_and, y_or, y_ife, y_tup, y_lst, y_idx, y_slc, y_rvs, y_rev, y_lc, y_lcf, y_len, y_bi, y_isi, y_mt, y_app, y_ext, y_pop, y_pat, y_ln, y_lc1, y_lset, kLs, y_lix, kLx1, kLx2, y_upp, kUp, y_edt, y_srk, kSk, srkV, y_sset, kSs, y_ch3, y_Bch3, kT1, kT2, kT3, kT4, y_idh, kIdh, y_lol, kLol, y_zip, kZ1, kZ2_ok, y_mk, kMk, y_lrg, y_lrg2, kLr, kLr1, kLr2, z_gh, z_swp, sSw1, sSw3, sSw4, sSw5, sSw6, y_pn, y_pc, y_rng, y_itv, y_an, y_on, z_nil, z_cons, z_asg, z_unp, z_six, z_exp, z_ret, z_retN, z_ite, z_for, z_whl, z_rai, z_tryB, c8_rt, c8_nx, cM_rt, cM_nx, z_pass, z_brk, z_cont, ev_call d_is_whole, g_MOST_PLACES, h1, webB]
@[simp] theorem q_need_web (n : Nat) (m : Int) (ts : List (Int × Int)) (μ : Mu) (h : ts.length ≤ 1000) (hw : webB m ts = true) : ap (n + 5) "need_web" [.dt (webD m ts)] μ = .ok (.dt .none) μ := by
  rw [ap_succ d_need_web, runFn_ok rfl]
  simp [f_need_web, szl, Fn.start, bindT, E.isNil, y_Band, y_Bor, y_Bnot, y_Bcmp, y_Bchn, y_Bcall, y_Bisi, y_Bbi, y_Bvar, y_Bmt, y_Blen, y_Bbin, y_Bidx, y_Bcst, y_Blc, y_Blcf, kB2, kB1, kN, kNot, kC2, kC1, kH4, kH3, kH2, kH1, kI2, kI1, TL.kTup, kLst, kX2, kX1, kV3, kV2, kV1, kS3, kS2, kS1, kR, kFr, qE, qB, kL, kLf, kLen, kBi, kIs, kM1, kApp2, kApp1, kExt2, kExt1, kPop, kPat1, kE2, kE1, kP, kRg, kIv, kA2, kO2, kA1, kO1, kTr, sAsg, sUnp, sUnpL, z_unpL, sSix3, sSix2, sSix1, sExp, sRet, sRai, sIte, sFor, y_var, y_cst, y_glb, y_bin, y_neg, y_not, y_cmp, y_chn, y_and, y_or, y_ife, y_tup, y_lst, y_idx, y_slc, y_rvs, y_rev, y_lc, y_lcf, y_len, y_bi, y_isi, y_mt, y_app, y_ext, y_pop, y_pat, y_ln, y_lc1, y_lset, kLs, y_lix, kLx1, kLx2, y_upp, kUp, y_edt, y_srk, kSk, srkV, y_sset, kSs, y_ch3, y_Bch3, kT1, kT2, kT3, kT4, y_idh, kIdh, y_lol, kLol, y_zip, kZ1, kZ2_ok, y_mk, kMk, y_lrg, y_lrg2, kLr, kLr1, kLr2, z_gh, z_swp, sSw1, sSw3, sSw4, sSw5, sSw6, y_pn, y_pc, y_rng, y_itv, y_an, y_on, z_nil, z_cons, z_asg, z_unp, z_six, z_exp, z_ret, z_retN, z_ite, z_for, z_whl, z_rai, z_tryB, c8_rt, c8_nx, cM_rt, cM_nx, z_pass, z_brk, z_cont, ev_call d_is_web, q_is_web, h, hw]
-- needs: _law_take
theorem q_take (n k : Nat) (N m : Int) (μ : Mu) (h : μ[k]? = some (some (.lst [.int N]))) (h0 : 0 < m) (h1 : m < 1073741824) :
    ap (n + 1) "_law_take" [.hd k, .dt (.int m)] μ = .ok (.dt (.int (N % m))) (μ.set k (some (.lst [.int (N / m)]))) := by
  have hk : k < μ.length := (List.getElem?_eq_some_iff.mp h).1
  rw [ap_succ d_l_take, runFn_ok rfl]
  simp [f_l_take, szl, Fn.start, bindT, E.isNil, y_Band, y_Bor, y_Bnot, y_Bcmp, y_Bchn, y_Bcall, y_Bisi, y_Bbi, y_Bvar, y_Bmt, y_Blen, y_Bbin, y_Bidx, y_Bcst, y_Blc, y_Blcf, kB2, kB1, kN, kNot, kC2, kC1, kH4, kH3, kH2, kH1, kI2, kI1, TL.kTup, kLst, kX2, kX1, kV3, kV2, kV1, kS3, kS2, kS1, kR, kFr, qE, qB, kL, kLf, kLen, kBi, kIs, kM1, kApp2, kApp1, kExt2, kExt1, kPop, kPat1, kE2, kE1, kP, kRg, kIv, kA2, kO2, kA1, kO1, kTr, sAsg, sUnp, sUnpL, z_unpL, sSix3, sSix2, sSix1, sExp, sRet, sRai, sIte, sFor, y_var, y_cst, y_glb, y_bin, y_neg, y_not, y_cmp, y_chn, y_and, y_or, y_ife, y_tup, y_lst, y_idx, y_slc, y_rvs, y_rev, y_lc, y_lcf, y_len, y_bi, y_isi, y_mt, y_app, y_ext, y_pop, y_pat, y_ln, y_lc1, y_lset, kLs, y_lix, kLx1, kLx2, y_upp, kUp, y_edt, y_srk, kSk, srkV, y_sset, kSs, y_ch3, y_Bch3, kT1, kT2, kT3, kT4, y_idh, kIdh, y_lol, kLol, y_zip, kZ1, kZ2_ok, y_mk, kMk, y_lrg, y_lrg2, kLr, kLr1, kLr2, z_gh, z_swp, sSw1, sSw3, sSw4, sSw5, sSw6, y_pn, y_pc, y_rng, y_itv, y_an, y_on, z_nil, z_cons, z_asg, z_unp, z_six, z_exp, z_ret, z_retN, z_ite, z_for, z_whl, z_rai, z_tryB, c8_rt, c8_nx, cM_rt, cM_nx, z_pass, z_brk, z_cont, drf, h, bi_dm _ _ ⟨h0, h1⟩, setF, ixN]
theorem q_takeB (n k : Nat) (N m : Int) (μ : Mu) (hk : k < μ.length) (h0 : 0 < m) (h1 : m < 1073741824) :
    ap (n + 1) "_law_take" [.hd k, .dt (.int m)] (bx μ k N) = .ok (.dt (.int (N % m))) (bx μ k (N / m)) := by
  rw [q_take n k N m _ (bx_get hk) h0 h1]
  simp [bx]
theorem q_takeA (n k : Nat) (N m : Int) (μ ys : Mu) (hk : k < μ.length) (h0 : 0 < m) (h1 : m < 1073741824) :
    ap (n + 1) "_law_take" [.hd k, .dt (.int m)] (bx μ k N ++ ys) = .ok (.dt (.int (N % m))) (bx μ k (N / m) ++ ys) := by
  rw [q_take n k N m _ (bx_geta hk) h0 h1]
  simp only [bx]
  rw [List.set_append_left _ _ (by simpa using hk)]
  simp
-- needs: _law_cell _law_mix _law_box
theorem q_cell (n : Nat) (ns : List Int) (k : Nat) (μ : Mu) : ∃ c : Int, ap (n + 1) "_law_cell" [.scr ns, .dt (.int k)] μ = .ok (.dt (.int c)) μ := by
  by_cases h : k < ns.length
  · refine ⟨ns[k], ?_⟩
    rw [ap_succ d_l_cell, runFn_ok rfl]
    simp [f_l_cell, szl, Fn.start, bindT, E.isNil, y_Band, y_Bor, y_Bnot, y_Bcmp, y_Bchn, y_Bcall, y_Bisi, y_Bbi, y_Bvar, y_Bmt, y_Blen, y_Bbin, y_Bidx, y_Bcst, y_Blc, y_Blcf, kB2, kB1, kN, kNot, kC2, kC1, kH4, kH3, kH2, kH1, kI2, kI1, TL.kTup, kLst, kX2, kX1, kV3, kV2, kV1, kS3, kS2, kS1, kR, kFr, qE, qB, kL, kLf, kLen, kBi, kIs, kM1, kApp2, kApp1, kExt2, kExt1, kPop, kPat1, kE2, kE1, kP, kRg, kIv, kA2, kO2, kA1, kO1, kTr, sAsg, sUnp, sUnpL, z_unpL, sSix3, sSix2, sSix1, sExp, sRet, sRai, sIte, sFor, y_var, y_cst, y_glb, y_bin, y_neg, y_not, y_cmp, y_chn, y_and, y_or, y_ife, y_tup, y_lst, y_idx, y_slc, y_rvs, y_rev, y_lc, y_lcf, y_len, y_bi, y_isi, y_mt, y_app, y_ext, y_pop, y_pat, y_ln, y_lc1, y_lset, kLs, y_lix, kLx1, kLx2, y_upp, kUp, y_edt, y_srk, kSk, srkV, y_sset, kSs, y_ch3, y_Bch3, kT1, kT2, kT3, kT4, y_idh, kIdh, y_lol, kLol, y_zip, kZ1, kZ2_ok, y_mk, kMk, y_lrg, y_lrg2, kLr, kLr1, kLr2, z_gh, z_swp, sSw1, sSw3, sSw4, sSw5, sSw6, y_pn, y_pc, y_rng, y_itv, y_an, y_on, z_nil, z_cons, z_asg, z_unp, z_six, z_exp, z_ret, z_retN, z_ite, z_for, z_whl, z_rai, z_tryB, c8_rt, c8_nx, cM_rt, cM_nx, z_pass, z_brk, z_cont, h, at_nat]
  · refine ⟨0, ?_⟩
    rw [ap_succ d_l_cell, runFn_ok rfl]
    simp [f_l_cell, szl, Fn.start, bindT, E.isNil, y_Band, y_Bor, y_Bnot, y_Bcmp, y_Bchn, y_Bcall, y_Bisi, y_Bbi, y_Bvar, y_Bmt, y_Blen, y_Bbin, y_Bidx, y_Bcst, y_Blc, y_Blcf, kB2, kB1, kN, kNot, kC2, kC1, kH4, kH3, kH2, kH1, kI2, kI1, TL.kTup, kLst, kX2, kX1, kV3, kV2, kV1, kS3, kS2, kS1, kR, kFr, qE, qB, kL, kLf, kLen, kBi, kIs, kM1, kApp2, kApp1, kExt2, kExt1, kPop, kPat1, kE2, kE1, kP, kRg, kIv, kA2, kO2, kA1, kO1, kTr, sAsg, sUnp, sUnpL, z_unpL, sSix3, sSix2, sSix1, sExp, sRet, sRai, sIte, sFor, y_var, y_cst, y_glb, y_bin, y_neg, y_not, y_cmp, y_chn, y_and, y_or, y_ife, y_tup, y_lst, y_idx, y_slc, y_rvs, y_rev, y_lc, y_lcf, y_len, y_bi, y_isi, y_mt, y_app, y_ext, y_pop, y_pat, y_ln, y_lc1, y_lset, kLs, y_lix, kLx1, kLx2, y_upp, kUp, y_edt, y_srk, kSk, srkV, y_sset, kSs, y_ch3, y_Bch3, kT1, kT2, kT3, kT4, y_idh, kIdh, y_lol, kLol, y_zip, kZ1, kZ2_ok, y_mk, kMk, y_lrg, y_lrg2, kLr, kLr1, kLr2, z_gh, z_swp, sSw1, sSw3, sSw4, sSw5, sSw6, y_pn, y_pc, y_rng, y_itv, y_an, y_on, z_nil, z_cons, z_asg, z_unp, z_six, z_exp, z_ret, z_retN, z_ite, z_for, z_whl, z_rai, z_tryB, c8_rt, c8_nx, cM_rt, cM_nx, z_pass, z_brk, z_cont, h]
theorem q_mix (n : Nat) (c : Int) (k : Nat) (hk : k < 40) (μ : Mu) : ∃ v : Int, ap (n + 1) "_law_mix" [.dt (.int c), .dt (.int k)] μ = .ok (.dt (.int v)) μ := by
  have m1 := bn_mod c 2147483647 (by omega)
  have m2 := bn_mod (k : Int) 13 (by omega)
  have m3 := bn_div (k : Int) 13 (by omega)
  have c0 : 0 ≤ c % 2147483647 := Int.emod_nonneg _ (by omega)
  have c1 : c % 2147483647 < 2147483647 := Int.emod_lt_of_pos _ (by omega)
  have e : ((k : Int) % 13) = ((k % 13 : Nat) : Int) := by omega
  have hx : ∃ z : Int, atI [PyData.int 48271, .int 69621, .int 16807, .int 39373, .int 30269, .int 40014, .int 40692, .int 50021, .int 61687, .int 71993, .int 83869, .int 95561, .int 30307] ((k : Int) % 13) = some (.int z) := by
    rw [e, at_nat]
    have : k % 13 < 13 := Nat.mod_lt _ (by omega)
    rcases (by omega : k % 13 = 0 ∨ k % 13 = 1 ∨ k % 13 = 2 ∨ k % 13 = 3 ∨ k % 13 = 4 ∨ k % 13 = 5 ∨ k % 13 = 6 ∨ k % 13 = 7 ∨ k % 13 = 8 ∨ k % 13 = 9 ∨ k % 13 = 10 ∨ k % 13 = 11 ∨ k % 13 = 12) with q | q | q | q | q | q | q | q | q | q | q | q | q <;> rw [q] <;> exact ⟨_, rfl⟩
  obtain ⟨z, hx⟩ := hx
  have t1 := bn_mul (c % 2147483647 + 12345) z (.inl (by omega))
  have t2 := bn_mul 977 (k : Int) (.inl (by omega))
  have t3 := bn_mul 7919 ((k : Int) / 13) (.inl (by omega))
  generalize hs : (c % 2147483647 + 12345) * z + 977 * (k : Int) + 7919 * ((k : Int) / 13) = s
  have m4 := bn_mod s 1000000007 (by omega)
  have s0 : 0 ≤ s % 1000000007 := Int.emod_nonneg _ (by omega)
  have s1 : s % 1000000007 < 1000000007 := Int.emod_lt_of_pos _ (by omega)
  have t4 := bn_mul (s % 1000000007) (s % 1000000007) (.inl (by omega))
  have t5 := bn_mul 48271 (k : Int) (.inl (by omega))
  generalize hu : s % 1000000007 * (s % 1000000007) + 48271 * (k : Int) = u
  have m5 := bn_mod u 1000000007 (by omega)
  have m6 := bn_div (u % 1000000007) 7 (by omega)
  refine ⟨u % 1000000007 / 7, ?_⟩
  rw [ap_succ d_l_mix, runFn_ok rfl]
  simp [f_l_mix, szl, Fn.start, bindT, E.isNil, y_Band, y_Bor, y_Bnot, y_Bcmp, y_Bchn, y_Bcall, y_Bisi, y_Bbi, y_Bvar, y_Bmt, y_Blen, y_Bbin, y_Bidx, y_Bcst, y_Blc, y_Blcf, kB2, kB1, kN, kNot, kC2, kC1, kH4, kH3, kH2, kH1, kI2, kI1, TL.kTup, kLst, kX2, kX1, kV3, kV2, kV1, kS3, kS2, kS1, kR, kFr, qE, qB, kL, kLf, kLen, kBi, kIs, kM1, kApp2, kApp1, kExt2, kExt1, kPop, kPat1, kE2, kE1, kP, kRg, kIv, kA2, kO2, kA1, kO1, kTr, sAsg, sUnp, sUnpL, z_unpL, sSix3, sSix2, sSix1, sExp, sRet, sRai, sIte, sFor, y_var, y_cst, y_glb, y_bin, y_neg, y_not, y_cmp, y_chn, y_and, y_or, y_ife, y_tup, y_lst, y_idx, y_slc, y_rvs, y_rev, y_lc, y_lcf, y_len, y_bi, y_isi, y_mt, y_app, y_ext, y_pop, y_pat, y_ln, y_lc1, y_lset, kLs, y_lix, kLx1, kLx2, y_upp, kUp, y_edt, y_srk, kSk, srkV, y_sset, kSs, y_ch3, y_Bch3, kT1, kT2, kT3, kT4, y_idh, kIdh, y_lol, kLol, y_zip, kZ1, kZ2_ok, y_mk, kMk, y_lrg, y_lrg2, kLr, kLr1, kLr2, z_gh, z_swp, sSw1, sSw3, sSw4, sSw5, sSw6, y_pn, y_pc, y_rng, y_itv, y_an, y_on, z_nil, z_cons, z_asg, z_unp, z_six, z_exp, z_ret, z_retN, z_ite, z_for, z_whl, z_rai, z_tryB, c8_rt, c8_nx, cM_rt, cM_nx, z_pass, z_brk, z_cont, m1, m2, m3, hx, t1, t2, t3, hs, m4, t4, t5, hu, m5, m6]
theorem q_box (n : Nat) (ns : List Int) (k : Nat) (μ : Mu) : ∃ N : Int, ap (n + 2) "_law_box" [.scr ns, .dt (.int k)] μ = .ok (.fr [.int N]) μ := by
  obtain ⟨c, hc⟩ := q_cell n ns k μ
  have m1 := bn_mod c 2 (by omega)
  by_cases h : c % 2 = 0
  · refine ⟨(if c < 0 then -c else c) / 2, ?_⟩
    have m2 := bn_div (if c < 0 then -c else c) 2 (by omega)
    rw [ap_succ d_l_box, runFn_ok rfl]
    simp [f_l_box, szl, Fn.start, bindT, E.isNil, y_Band, y_Bor, y_Bnot, y_Bcmp, y_Bchn, y_Bcall, y_Bisi, y_Bbi, y_Bvar, y_Bmt, y_Blen, y_Bbin, y_Bidx, y_Bcst, y_Blc, y_Blcf, kB2, kB1, kN, kNot, kC2, kC1, kH4, kH3, kH2, kH1, kI2, kI1, TL.kTup, kLst, kX2, kX1, kV3, kV2, kV1, kS3, kS2, kS1, kR, kFr, qE, qB, kL, kLf, kLen, kBi, kIs, kM1, kApp2, kApp1, kExt2, kExt1, kPop, kPat1, kE2, kE1, kP, kRg, kIv, kA2, kO2, kA1, kO1, kTr, sAsg, sUnp, sUnpL, z_unpL, sSix3, sSix2, sSix1, sExp, sRet, sRai, sIte, sFor, y_var, y_cst, y_glb, y_bin, y_neg, y_not, y_cmp, y_chn, y_and, y_or, y_ife, y_tup, y_lst, y_idx, y_slc, y_rvs, y_rev, y_lc, y_lcf, y_len, y_bi, y_isi, y_mt, y_app, y_ext, y_pop, y_pat, y_ln, y_lc1, y_lset, kLs, y_lix, kLx1, kLx2, y_upp, kUp, y_edt, y_srk, kSk, srkV, y_sset, kSs, y_ch3, y_Bch3, kT1, kT2, kT3, kT4, y_idh, kIdh, y_lol, kLol, y_zip, kZ1, kZ2_ok, y_mk, kMk, y_lrg, y_lrg2, kLr, kLr1, kLr2, z_gh, z_swp, sSw1, sSw3, sSw4, sSw5, sSw6, y_pn, y_pc, y_rng, y_itv, y_an, y_on, z_nil, z_cons, z_asg, z_unp, z_six, z_exp, z_ret, z_retN, z_ite, z_for, z_whl, z_rai, z_tryB, c8_rt, c8_nx, cM_rt, cM_nx, z_pass, z_brk, z_cont, ev_call d_l_cell, hc, m1, h, m2]
  · have hr := rg_to 40 (by omega)
    obtain ⟨ρ', μ', h1, v, y, h2, rfl⟩ := for_inv (ts := [4]) (body := TL.exec (R (n + 1)) γ 1000 (.cons (.asg false 3 (.bin .Add (.bin .Mult (.var 3) (.cst (.int 142857143))) (.call "_law_mix" (.cons (.var 2) (.cons (.var 4) .nil))))) .nil))
      (fun ρ μ' => ∃ (v : Int) (y : Option Vl), ρ = [some (.scr ns), some (.dt (.int k)), some (.dt (.int c)), some (.dt (.int v)), y] ∧ μ' = μ) (rangeL 0 40) [some (.scr ns), some (.dt (.int k)), some (.dt (.int c)), some (.dt (.int 0)), none] μ ⟨0, none, rfl, rfl⟩ (by
        rintro d hd ρ μ1 ⟨v, y, rfl, rfl⟩
        unfold rangeL at hd
        rw [List.mem_map] at hd
        obtain ⟨j, hj, rfl⟩ := hd
        rw [List.mem_range] at hj
        obtain ⟨z, hz⟩ := q_mix n c j hj μ1
        have t := bn_mul v 142857143 (.inr (by omega))
        refine ⟨_, _, μ1, rfl, .inl ?_, v * 142857143 + z, some (.dt (.int j)), rfl, rfl⟩
        simp [szl, Fn.start, bindT, E.isNil, y_Band, y_Bor, y_Bnot, y_Bcmp, y_Bchn, y_Bcall, y_Bisi, y_Bbi, y_Bvar, y_Bmt, y_Blen, y_Bbin, y_Bidx, y_Bcst, y_Blc, y_Blcf, kB2, kB1, kN, kNot, kC2, kC1, kH4, kH3, kH2, kH1, kI2, kI1, TL.kTup, kLst, kX2, kX1, kV3, kV2, kV1, kS3, kS2, kS1, kR, kFr, qE, qB, kL, kLf, kLen, kBi, kIs, kM1, kApp2, kApp1, kExt2, kExt1, kPop, kPat1, kE2, kE1, kP, kRg, kIv, kA2, kO2, kA1, kO1, kTr, sAsg, sUnp, sUnpL, z_unpL, sSix3, sSix2, sSix1, sExp, sRet, sRai, sIte, sFor, y_var, y_cst, y_glb, y_bin, y_neg, y_not, y_cmp, y_chn, y_and, y_or, y_ife, y_tup, y_lst, y_idx, y_slc, y_rvs, y_rev, y_lc, y_lcf, y_len, y_bi, y_isi, y_mt, y_app, y_ext, y_pop, y_pat, y_ln, y_lc1, y_lset, kLs, y_lix, kLx1, kLx2, y_upp, kUp, y_edt, y_srk, kSk, srkV, y_sset, kSs, y_ch3, y_Bch3, kT1, kT2, kT3, kT4, y_idh, kIdh, y_lol, kLol, y_zip, kZ1, kZ2_ok, y_mk, kMk, y_lrg, y_lrg2, kLr, kLr1, kLr2, z_gh, z_swp, sSw1, sSw3, sSw4, sSw5, sSw6, y_pn, y_pc, y_rng, y_itv, y_an, y_on, z_nil, z_cons, z_asg, z_unp, z_six, z_exp, z_ret, z_retN, z_ite, z_for, z_whl, z_rai, z_tryB, c8_rt, c8_nx, cM_rt, cM_nx, z_pass, z_brk, z_cont, t, ev_call d_l_mix, hz])
    refine ⟨v, ?_⟩
    rw [ap_succ d_l_box, runFn_ok rfl]
    have hr' : rngF [.int 40] = some (rangeL 0 40) := hr
    simp [f_l_box, szl, Fn.start, bindT, E.isNil, y_Band, y_Bor, y_Bnot, y_Bcmp, y_Bchn, y_Bcall, y_Bisi, y_Bbi, y_Bvar, y_Bmt, y_Blen, y_Bbin, y_Bidx, y_Bcst, y_Blc, y_Blcf, kB2, kB1, kN, kNot, kC2, kC1, kH4, kH3, kH2, kH1, kI2, kI1, TL.kTup, kLst, kX2, kX1, kV3, kV2, kV1, kS3, kS2, kS1, kR, kFr, qE, qB, kL, kLf, kLen, kBi, kIs, kM1, kApp2, kApp1, kExt2, kExt1, kPop, kPat1, kE2, kE1, kP, kRg, kIv, kA2, kO2, kA1, kO1, kTr, sAsg, sUnp, sUnpL, z_unpL, sSix3, sSix2, sSix1, sExp, sRet, sRai, sIte, sFor, y_var, y_cst, y_glb, y_bin, y_neg, y_not, y_cmp, y_chn, y_and, y_or, y_ife, y_tup, y_lst, y_idx, y_slc, y_rvs, y_rev, y_lc, y_lcf, y_len, y_bi, y_isi, y_mt, y_app, y_ext, y_pop, y_pat, y_ln, y_lc1, y_lset, kLs, y_lix, kLx1, kLx2, y_upp, kUp, y_edt, y_srk, kSk, srkV, y_sset, kSs, y_ch3, y_Bch3, kT1, kT2, kT3, kT4, y_idh, kIdh, y_lol, kLol, y_zip, kZ1, kZ2_ok, y_mk, kMk, y_lrg, y_lrg2, kLr, kLr1, kLr2, z_gh, z_swp, sSw1, sSw3, sSw4, sSw5, sSw6, y_pn, y_pc, y_rng, y_itv, y_an, y_on, z_nil, z_cons, z_asg, z_unp, z_six, z_exp, z_ret, z_retN, z_ite, z_for, z_whl, z_rai, z_tryB, c8_rt, c8_nx, cM_rt, cM_nx, z_pass, z_brk, z_cont, ev_call d_l_cell, hc, m1, h, hr', h1, h2]
-- needs: _law_twos
theorem q_l_twos (n m : Nat) (μ : Mu) (hm : m ≤ 100) : ap (n + 1) "_law_twos" [.dt (.int m)] μ = .ok (.dt (.list ((twos m).map tieD))) μ := by
  obtain ⟨ρ', μ', h1, y, z, h2, h3⟩ := for_pre (ρ := [some (.dt (.int m)), some (.dt (.list [])), none, none]) (μ := μ) (i := 2) (body := TL.exec (R n) γ 1000 f_l_twos_b1) (fun k : Nat => .int (0 + (k : Int)))
    (fun pre ρ μ' => ∃ y z, ρ = [some (.dt (.int m)), some (.dt (.list ((pre.flatMap (twoRow m)).map tieD))), y, z] ∧ μ' = μ) (List.range m) ⟨_, _, rfl, rfl⟩ (by
    rintro pre a post e ρ μ1 ⟨y, z, rfl, rfl⟩
    have ha : a < m := by simpa using (pre_sub e).1
    have pl : pre.length ≤ m := by
      have := congrArg List.length e
      simp at this
      omega
    have tl : ∀ a, (twoRow m a).length ≤ m := fun a => by simp [twoRow]
    have fl := flat_len (twoRow m) m pre fun x _ => tl x
    have fl2 : m * pre.length ≤ 100 * 100 := Nat.mul_le_mul hm (by omega)
    have hr := rg_2 ((a : Int) + 1) (m : Int) (by omega)
    have e1 : ((m : Int) - ((a : Int) + 1)).toNat = m - (a + 1) := by omega
    have hc : ∀ x1 z, lcL [3] none (qE (R n) γ f_l_twos_e1) [some (.dt (.int m)), x1, some (.dt (.int a)), z] (rangeL ((a : Int) + 1) ((m : Int) - ((a : Int) + 1)).toNat) μ1 = .ok ((twoRow m a).map tieD) μ1 := fun x1 z => by
      rw [e1]
      unfold rangeL twoRow
      rw [List.map_map]
      exact lcm _ _ _ fun k hk => by simp [szl, Fn.start, bindT, E.isNil, y_Band, y_Bor, y_Bnot, y_Bcmp, y_Bchn, y_Bcall, y_Bisi, y_Bbi, y_Bvar, y_Bmt, y_Blen, y_Bbin, y_Bidx, y_Bcst, y_Blc, y_Blcf, kB2, kB1, kN, kNot, kC2, kC1, kH4, kH3, kH2, kH1, kI2, kI1, TL.kTup, kLst, kX2, kX1, kV3, kV2, kV1, kS3, kS2, kS1, kR, kFr, qE, qB, kL, kLf, kLen, kBi, kIs, kM1, kApp2, kApp1, kExt2, kExt1, kPop, kPat1, kE2, kE1, kP, kRg, kIv, kA2, kO2, kA1, kO1, kTr, sAsg, sUnp, sUnpL, z_unpL, sSix3, sSix2, sSix1, sExp, sRet, sRai, sIte, sFor, y_var, y_cst, y_glb, y_bin, y_neg, y_not, y_cmp, y_chn, y_and, y_or, y_ife, y_tup, y_lst, y_idx, y_slc, y_rvs, y_rev, y_lc, y_lcf, y_len, y_bi, y_isi, y_mt, y_app, y_ext, y_pop, y_pat, y_ln, y_lc1, y_lset, kLs, y_lix, kLx1, kLx2, y_upp, kUp, y_edt, y_srk, kSk, srkV, y_sset, kSs, y_ch3, y_Bch3, kT1, kT2, kT3, kT4, y_idh, kIdh, y_lol, kLol, y_zip, kZ1, kZ2_ok, y_mk, kMk, y_lrg, y_lrg2, kLr, kLr1, kLr2, z_gh, z_swp, sSw1, sSw3, sSw4, sSw5, sSw6, y_pn, y_pc, y_rng, y_itv, y_an, y_on, z_nil, z_cons, z_asg, z_unp, z_six, z_exp, z_ret, z_retN, z_ite, z_for, z_whl, z_rai, z_tryB, c8_rt, c8_nx, cM_rt, cM_nx, z_pass, z_brk, z_cont]
    have ta := tl a
    have ad := bn_addl ((pre.flatMap (twoRow m)).map tieD) ((twoRow m a).map tieD) (szle (by simp only [List.length_map]; omega))
    have hz : ¬ sizeLine < ((m : Int) - ((a : Int) + 1)).toNat := szn (by omega)
    refine ⟨_, _, ?_, some (.dt (.int a)), z, rfl, rfl⟩
    simp only [List.flatMap_append, List.map_append, List.flatMap_cons, List.flatMap_nil, List.append_nil]
    simp [szl, Fn.start, bindT, E.isNil, y_Band, y_Bor, y_Bnot, y_Bcmp, y_Bchn, y_Bcall, y_Bisi, y_Bbi, y_Bvar, y_Bmt, y_Blen, y_Bbin, y_Bidx, y_Bcst, y_Blc, y_Blcf, kB2, kB1, kN, kNot, kC2, kC1, kH4, kH3, kH2, kH1, kI2, kI1, TL.kTup, kLst, kX2, kX1, kV3, kV2, kV1, kS3, kS2, kS1, kR, kFr, qE, qB, kL, kLf, kLen, kBi, kIs, kM1, kApp2, kApp1, kExt2, kExt1, kPop, kPat1, kE2, kE1, kP, kRg, kIv, kA2, kO2, kA1, kO1, kTr, sAsg, sUnp, sUnpL, z_unpL, sSix3, sSix2, sSix1, sExp, sRet, sRai, sIte, sFor, y_var, y_cst, y_glb, y_bin, y_neg, y_not, y_cmp, y_chn, y_and, y_or, y_ife, y_tup, y_lst, y_idx, y_slc, y_rvs, y_rev, y_lc, y_lcf, y_len, y_bi, y_isi, y_mt, y_app, y_ext, y_pop, y_pat, y_ln, y_lc1, y_lset, kLs, y_lix, kLx1, kLx2, y_upp, kUp, y_edt, y_srk, kSk, srkV, y_sset, kSs, y_ch3, y_Bch3, kT1, kT2, kT3, kT4, y_idh, kIdh, y_lol, kLol, y_zip, kZ1, kZ2_ok, y_mk, kMk, y_lrg, y_lrg2, kLr, kLr1, kLr2, z_gh, z_swp, sSw1, sSw3, sSw4, sSw5, sSw6, y_pn, y_pc, y_rng, y_itv, y_an, y_on, z_nil, z_cons, z_asg, z_unp, z_six, z_exp, z_ret, z_retN, z_ite, z_for, z_whl, z_rai, z_tryB, c8_rt, c8_nx, cM_rt, cM_nx, z_pass, z_brk, z_cont, hr, hc, hz, ad])
  subst h2 h3
  have hr := rg_1 (m : Int) (by omega)
  simp only [Int.toNat_natCast] at hr
  rw [ap_succ d_l_twos, runFn_ok rfl]
  unfold rangeL at hr
  simp [f_l_twos, szl, Fn.start, bindT, E.isNil, y_Band, y_Bor, y_Bnot, y_Bcmp, y_Bchn, y_Bcall, y_Bisi, y_Bbi, y_Bvar, y_Bmt, y_Blen, y_Bbin, y_Bidx, y_Bcst, y_Blc, y_Blcf, kB2, kB1, kN, kNot, kC2, kC1, kH4, kH3, kH2, kH1, kI2, kI1, TL.kTup, kLst, kX2, kX1, kV3, kV2, kV1, kS3, kS2, kS1, kR, kFr, qE, qB, kL, kLf, kLen, kBi, kIs, kM1, kApp2, kApp1, kExt2, kExt1, kPop, kPat1, kE2, kE1, kP, kRg, kIv, kA2, kO2, kA1, kO1, kTr, sAsg, sUnp, sUnpL, z_unpL, sSix3, sSix2, sSix1, sExp, sRet, sRai, sIte, sFor, y_var, y_cst, y_glb, y_bin, y_neg, y_not, y_cmp, y_chn, y_and, y_or, y_ife, y_tup, y_lst, y_idx, y_slc, y_rvs, y_rev, y_lc, y_lcf, y_len, y_bi, y_isi, y_mt, y_app, y_ext, y_pop, y_pat, y_ln, y_lc1, y_lset, kLs, y_lix, kLx1, kLx2, y_upp, kUp, y_edt, y_srk, kSk, srkV, y_sset, kSs, y_ch3, y_Bch3, kT1, kT2, kT3, kT4, y_idh, kIdh, y_lol, kLol, y_zip, kZ1, kZ2_ok, y_mk, kMk, y_lrg, y_lrg2, kLr, kLr1, kLr2, z_gh, z_swp, sSw1, sSw3, sSw4, sSw5, sSw6, y_pn, y_pc, y_rng, y_itv, y_an, y_on, z_nil, z_cons, z_asg, z_unp, z_six, z_exp, z_ret, z_retN, z_ite, z_for, z_whl, z_rai, z_tryB, c8_rt, c8_nx, cM_rt, cM_nx, z_pass, z_brk, z_cont, hr]
  simp only [Int.zero_add] at h1
  rw [h1]
  simp [szl, Fn.start, bindT, E.isNil, y_Band, y_Bor, y_Bnot, y_Bcmp, y_Bchn, y_Bcall, y_Bisi, y_Bbi, y_Bvar, y_Bmt, y_Blen, y_Bbin, y_Bidx, y_Bcst, y_Blc, y_Blcf, kB2, kB1, kN, kNot, kC2, kC1, kH4, kH3, kH2, kH1, kI2, kI1, TL.kTup, kLst, kX2, kX1, kV3, kV2, kV1, kS3, kS2, kS1, kR, kFr, qE, qB, kL, kLf, kLen, kBi, kIs, kM1, kApp2, kApp1, kExt2, kExt1, kPop, kPat1, kE2, kE1, kP, kRg, kIv, kA2, kO2, kA1, kO1, kTr, sAsg, sUnp, sUnpL, z_unpL, sSix3, sSix2, sSix1, sExp, sRet, sRai, sIte, sFor, y_var, y_cst, y_glb, y_bin, y_neg, y_not, y_cmp, y_chn, y_and, y_or, y_ife, y_tup, y_lst, y_idx, y_slc, y_rvs, y_rev, y_lc, y_lcf, y_len, y_bi, y_isi, y_mt, y_app, y_ext, y_pop, y_pat, y_ln, y_lc1, y_lset, kLs, y_lix, kLx1, kLx2, y_upp, kUp, y_edt, y_srk, kSk, srkV, y_sset, kSs, y_ch3, y_Bch3, kT1, kT2, kT3, kT4, y_idh, kIdh, y_lol, kLol, y_zip, kZ1, kZ2_ok, y_mk, kMk, y_lrg, y_lrg2, kLr, kLr1, kLr2, z_gh, z_swp, sSw1, sSw3, sSw4, sSw5, sSw6, y_pn, y_pc, y_rng, y_itv, y_an, y_on, z_nil, z_cons, z_asg, z_unp, z_six, z_exp, z_ret, z_retN, z_ite, z_for, z_whl, z_rai, z_tryB, c8_rt, c8_nx, cM_rt, cM_nx, z_pass, z_brk, z_cont, twos]
-- needs: _law_truth
theorem q_l_truth (n : Nat) (b c : Bool) (μ : Mu) : ap (n + 1) "_law_truth" [.dt (.bool b), .dt (.bool c)] μ = .ok (.dt (.bool (b == c))) μ := by
  rw [ap_succ d_l_truth, runFn_ok rfl]
  simp [f_l_truth, szl, Fn.start, bindT, E.isNil, y_Band, y_Bor, y_Bnot, y_Bcmp, y_Bchn, y_Bcall, y_Bisi, y_Bbi, y_Bvar, y_Bmt, y_Blen, y_Bbin, y_Bidx, y_Bcst, y_Blc, y_Blcf, kB2, kB1, kN, kNot, kC2, kC1, kH4, kH3, kH2, kH1, kI2, kI1, TL.kTup, kLst, kX2, kX1, kV3, kV2, kV1, kS3, kS2, kS1, kR, kFr, qE, qB, kL, kLf, kLen, kBi, kIs, kM1, kApp2, kApp1, kExt2, kExt1, kPop, kPat1, kE2, kE1, kP, kRg, kIv, kA2, kO2, kA1, kO1, kTr, sAsg, sUnp, sUnpL, z_unpL, sSix3, sSix2, sSix1, sExp, sRet, sRai, sIte, sFor, y_var, y_cst, y_glb, y_bin, y_neg, y_not, y_cmp, y_chn, y_and, y_or, y_ife, y_tup, y_lst, y_idx, y_slc, y_rvs, y_rev, y_lc, y_lcf, y_len, y_bi, y_isi, y_mt, y_app, y_ext, y_pop, y_pat, y_ln, y_lc1, y_lset, kLs, y_lix, kLx1, kLx2, y_upp, kUp, y_edt, y_srk, kSk, srkV, y_sset, kSs, y_ch3, y_Bch3, kT1, kT2, kT3, kT4, y_idh, kIdh, y_lol, kLol, y_zip, kZ1, kZ2_ok, y_mk, kMk, y_lrg, y_lrg2, kLr, kLr1, kLr2, z_gh, z_swp, sSw1, sSw3, sSw4, sSw5, sSw6, y_pn, y_pc, y_rng, y_itv, y_an, y_on, z_nil, z_cons, z_asg, z_unp, z_six, z_exp, z_ret, z_retN, z_ite, z_for, z_whl, z_rai, z_tryB, c8_rt, c8_nx, cM_rt, cM_nx, z_pass, z_brk, z_cont]
-- needs: _law_drawn_web _law_twos _law_take
theorem l_dwb (n k : Nat) (μ : Mu) (hk : k < μ.length) (x1 x6 x7 : Option Vl) (m kind N : Int) (h0 : 0 ≤ kind) (h5 : kind < 6) (a : Int × Int) (ts : List (Int × Int)) (hl : ts.length < 1000) :
    ∃ b : Bool, ∃ y6 y7, TL.exec (R (n + 1)) γ 1000 f_l_drawn_web_b1 [some (.hd k), x1, some (.dt (.int m)), some (.dt (.int kind)), some (.hd μ.length), some (.dt (tieD a)), x6, x7] (bx μ k N ++ [some (.lst (ts.map tieD))]) =
      .nx [some (.hd k), x1, some (.dt (.int m)), some (.dt (.int kind)), some (.hd μ.length), some (.dt (tieD a)), y6, y7] (bx μ k (N / 3) ++ [some (.lst ((if b then ts ++ [a] else ts).map tieD))]) := by
  have t := q_takeA n k N 3 μ [some (.lst (ts.map tieD))] hk (by omega) (by omega)
  have hs : ts.length < sizeLine := szlt (by omega)
  refine ⟨pick6 (decide (0 < N % 3)) (decide (N % 3 = 0)) true (decide (a.2 - a.1 = 1 ∨ a.2 - a.1 = m - 1)) (decide (a.1 = 0) || decide (0 < N % 3)) (decide (N % 3 < 2)) kind, some (.dt (.int (N % 3))), some (.dt (.list [.bool (decide (0 < N % 3)), .bool (decide (N % 3 = 0)), .bool true, .bool (decide (a.2 - a.1 = 1 ∨ a.2 - a.1 = m - 1)), .bool (decide (a.1 = 0) || decide (0 < N % 3)), .bool (decide (N % 3 < 2))])), ?_⟩
  generalize hb : pick6 (decide (0 < N % 3)) (decide (N % 3 = 0)) true (decide (a.2 - a.1 = 1 ∨ a.2 - a.1 = m - 1)) (decide (a.1 = 0) || decide (0 < N % 3)) (decide (N % 3 < 2)) kind = b
  have ha : atI [PyData.bool (decide (0 < N % 3)), .bool (decide (N % 3 = 0)), .bool true, .bool (decide (a.2 - a.1 = 1 ∨ a.2 - a.1 = m - 1)), .bool (decide (a.1 = 0) || decide (0 < N % 3)), .bool (decide (N % 3 < 2))] kind = some (.bool b) := by
    rw [at6 _ _ _ _ _ _ kind h0 h5, ← hb]
    unfold pick6
    repeat' split
    all_goals rfl
  clear hb
  cases b <;> simp [szl, Fn.start, bindT, E.isNil, y_Band, y_Bor, y_Bnot, y_Bcmp, y_Bchn, y_Bcall, y_Bisi, y_Bbi, y_Bvar, y_Bmt, y_Blen, y_Bbin, y_Bidx, y_Bcst, y_Blc, y_Blcf, kB2, kB1, kN, kNot, kC2, kC1, kH4, kH3, kH2, kH1, kI2, kI1, TL.kTup, kLst, kX2, kX1, kV3, kV2, kV1, kS3, kS2, kS1, kR, kFr, qE, qB, kL, kLf, kLen, kBi, kIs, kM1, kApp2, kApp1, kExt2, kExt1, kPop, kPat1, kE2, kE1, kP, kRg, kIv, kA2, kO2, kA1, kO1, kTr, sAsg, sUnp, sUnpL, z_unpL, sSix3, sSix2, sSix1, sExp, sRet, sRai, sIte, sFor, y_var, y_cst, y_glb, y_bin, y_neg, y_not, y_cmp, y_chn, y_and, y_or, y_ife, y_tup, y_lst, y_idx, y_slc, y_rvs, y_rev, y_lc, y_lcf, y_len, y_bi, y_isi, y_mt, y_app, y_ext, y_pop, y_pat, y_ln, y_lc1, y_lset, kLs, y_lix, kLx1, kLx2, y_upp, kUp, y_edt, y_srk, kSk, srkV, y_sset, kSs, y_ch3, y_Bch3, kT1, kT2, kT3, kT4, y_idh, kIdh, y_lol, kLol, y_zip, kZ1, kZ2_ok, y_mk, kMk, y_lrg, y_lrg2, kLr, kLr1, kLr2, z_gh, z_swp, sSw1, sSw3, sSw4, sSw5, sSw6, y_pn, y_pc, y_rng, y_itv, y_an, y_on, z_nil, z_cons, z_asg, z_unp, z_six, z_exp, z_ret, z_retN, z_ite, z_for, z_whl, z_rai, z_tryB, c8_rt, c8_nx, cM_rt, cM_nx, z_pass, z_brk, z_cont, ev_call d_l_take, t, ha, isL, hs, -Bool.decide_or]
theorem q_drawn_web (n k : Nat) (N : Int) (most : Nat) (μ : Mu) (hk : k < μ.length) (m0 : 0 < most) (m6 : most ≤ 6) :
    ∃ (N' : Int) (m : Nat) (ts : List (Int × Int)), ap (n + 2) "_law_drawn_web" [.hd k, .dt (.int most)] (bx μ k N) = .ok (.dt (webD m ts)) (bx μ k N') ∧ 1 ≤ m ∧ m ≤ most ∧ ts.Sublist (twos m) := by
  have p0 : 0 ≤ N % (most : Int) := Int.emod_nonneg _ (by omega)
  have p1 : N % (most : Int) < most := Int.emod_lt_of_pos _ (by omega)
  obtain ⟨j, hj⟩ := Int.eq_ofNat_of_zero_le p0
  have t1 := q_takeB (n + 0) k N (most : Int) μ hk (by omega) (by omega)
  have t2 := q_takeB (n + 0) k (N / (most : Int)) 6 μ hk (by omega) (by omega)
  generalize hN : N / (most : Int) / 6 = N2 at t2
  generalize hK : N / (most : Int) % 6 = kind at t2
  have k0 : 0 ≤ kind := by rw [← hK]; exact Int.emod_nonneg _ (by omega)
  have k1 : kind < 6 := by rw [← hK]; exact Int.emod_lt_of_pos _ (by omega)
  rw [hj] at t1
  have tw := q_l_twos n (1 + j) (bx μ k N2 ++ [some (.lst [])]) (by omega)
  obtain ⟨ρ', μ', h1, N', ts, y5, y6, y7, h2, h3, h4⟩ := for_pre (ρ := [some (.hd k), some (.dt (.int most)), some (.dt (.int ((1 + j : Nat) : Int))), some (.dt (.int kind)), some (.hd μ.length), none, none, none]) (μ := bx μ k N2 ++ [some (.lst [])]) (i := 5) (body := TL.exec (R (n + 1)) γ 1000 f_l_drawn_web_b1) tieD
    (fun pre ρ μ' => ∃ N' ts y5 y6 y7, ρ = [some (.hd k), some (.dt (.int most)), some (.dt (.int ((1 + j : Nat) : Int))), some (.dt (.int kind)), some (.hd μ.length), y5, y6, y7] ∧ μ' = bx μ k N' ++ [some (.lst (ts.map tieD))] ∧ ts.Sublist pre) (twos (1 + j)) ⟨N2, [], none, none, none, rfl, rfl, .slnil⟩ (by
    rintro pre a post e ρ μ1 ⟨N', ts, y5, y6, y7, rfl, rfl, hs⟩
    have l1 := twos_len (1 + j) (by omega)
    have l2 : pre.length ≤ 15 := by
      have := congrArg List.length e
      simp at this
      omega
    obtain ⟨b, z6, z7, hb⟩ := l_dwb n k μ hk (some (.dt (.int most))) y6 y7 ((1 + j : Nat) : Int) kind N' k0 k1 a ts (by have := hs.length_le; omega)
    refine ⟨_, _, hb, N' / 3, _, _, _, _, rfl, rfl, ?_⟩
    cases b with
    | true => exact hs.append (List.Sublist.refl _)
    | false => exact hs.trans (List.sublist_append_left _ _))
  subst h2 h3
  refine ⟨N', 1 + j, ts, ?_, by omega, by omega, h4⟩
  have e1 : (1 : Int) + (j : Int) = ((1 + j : Nat) : Int) := by omega
  rw [ap_succ d_l_drawn_web, runFn_ok rfl]
  simp [f_l_drawn_web, szl, Fn.start, bindT, E.isNil, y_Band, y_Bor, y_Bnot, y_Bcmp, y_Bchn, y_Bcall, y_Bisi, y_Bbi, y_Bvar, y_Bmt, y_Blen, y_Bbin, y_Bidx, y_Bcst, y_Blc, y_Blcf, kB2, kB1, kN, kNot, kC2, kC1, kH4, kH3, kH2, kH1, kI2, kI1, TL.kTup, kLst, kX2, kX1, kV3, kV2, kV1, kS3, kS2, kS1, kR, kFr, qE, qB, kL, kLf, kLen, kBi, kIs, kM1, kApp2, kApp1, kExt2, kExt1, kPop, kPat1, kE2, kE1, kP, kRg, kIv, kA2, kO2, kA1, kO1, kTr, sAsg, sUnp, sUnpL, z_unpL, sSix3, sSix2, sSix1, sExp, sRet, sRai, sIte, sFor, y_var, y_cst, y_glb, y_bin, y_neg, y_not, y_cmp, y_chn, y_and, y_or, y_ife, y_tup, y_lst, y_idx, y_slc, y_rvs, y_rev, y_lc, y_lcf, y_len, y_bi, y_isi, y_mt, y_app, y_ext, y_pop, y_pat, y_ln, y_lc1, y_lset, kLs, y_lix, kLx1, kLx2, y_upp, kUp, y_edt, y_srk, kSk, srkV, y_sset, kSs, y_ch3, y_Bch3, kT1, kT2, kT3, kT4, y_idh, kIdh, y_lol, kLol, y_zip, kZ1, kZ2_ok, y_mk, kMk, y_lrg, y_lrg2, kLr, kLr1, kLr2, z_gh, z_swp, sSw1, sSw3, sSw4, sSw5, sSw6, y_pn, y_pc, y_rng, y_itv, y_an, y_on, z_nil, z_cons, z_asg, z_unp, z_six, z_exp, z_ret, z_retN, z_ite, z_for, z_whl, z_rai, z_tryB, c8_rt, c8_nx, cM_rt, cM_nx, z_pass, z_brk, z_cont, ev_call d_l_take, ev_call d_l_twos, t1, t2, e1, tw, -Int.natCast_add]
  rw [h1]
  simp [szl, Fn.start, bindT, E.isNil, y_Band, y_Bor, y_Bnot, y_Bcmp, y_Bchn, y_Bcall, y_Bisi, y_Bbi, y_Bvar, y_Bmt, y_Blen, y_Bbin, y_Bidx, y_Bcst, y_Blc, y_Blcf, kB2, kB1, kN, kNot, kC2, kC1, kH4, kH3, kH2, kH1, kI2, kI1, TL.kTup, kLst, kX2, kX1, kV3, kV2, kV1, kS3, kS2, kS1, kR, kFr, qE, qB, kL, kLf, kLen, kBi, kIs, kM1, kApp2, kApp1, kExt2, kExt1, kPop, kPat1, kE2, kE1, kP, kRg, kIv, kA2, kO2, kA1, kO1, kTr, sAsg, sUnp, sUnpL, z_unpL, sSix3, sSix2, sSix1, sExp, sRet, sRai, sIte, sFor, y_var, y_cst, y_glb, y_bin, y_neg, y_not, y_cmp, y_chn, y_and, y_or, y_ife, y_tup, y_lst, y_idx, y_slc, y_rvs, y_rev, y_lc, y_lcf, y_len, y_bi, y_isi, y_mt, y_app, y_ext, y_pop, y_pat, y_ln, y_lc1, y_lset, kLs, y_lix, kLx1, kLx2, y_upp, kUp, y_edt, y_srk, kSk, srkV, y_sset, kSs, y_ch3, y_Bch3, kT1, kT2, kT3, kT4, y_idh, kIdh, y_lol, kLol, y_zip, kZ1, kZ2_ok, y_mk, kMk, y_lrg, y_lrg2, kLr, kLr1, kLr2, z_gh, z_swp, sSw1, sSw3, sSw4, sSw5, sSw6, y_pn, y_pc, y_rng, y_itv, y_an, y_on, z_nil, z_cons, z_asg, z_unp, z_six, z_exp, z_ret, z_retN, z_ite, z_for, z_whl, z_rai, z_tryB, c8_rt, c8_nx, cM_rt, cM_nx, z_pass, z_brk, z_cont, datas, drf]
-- needs: is_run_of need_run need_web is_whole
theorem q_is_run_of (n : Nat) (m : D) (ts : List (Int × Int)) (run : List Int) (μ : Mu) (hl : run.length ≤ 1000) (hr : run.length = ts.length) (h : ∀ x ∈ run, x = 1 ∨ x = -1) :
    ap (n + 2) "is_run_of" [.dt (.tuple (run.map .int)), .dt (.tuple [m, .tuple (ts.map tieD)])] μ = .ok (.dt (.bool true)) μ := by
  have hz : ¬ sizeLine < ts.length := szn (by omega)
  have hc : ∀ ρ : Ro, ρ = [some (.dt (.tuple (run.map .int))), some (.dt (.tuple [m, .tuple (ts.map tieD)])), none] → lcL [2] none (qE (R (n + 1)) γ f_is_run_of_e1) ρ (run.map .int) μ = .ok (run.map fun _ => .bool true) μ := by
    rintro ρ rfl
    refine lcm (fun x : Int => PyData.int x) _ _ fun x hx => ?_
    have := h x hx
    simp [szl, Fn.start, bindT, E.isNil, y_Band, y_Bor, y_Bnot, y_Bcmp, y_Bchn, y_Bcall, y_Bisi, y_Bbi, y_Bvar, y_Bmt, y_Blen, y_Bbin, y_Bidx, y_Bcst, y_Blc, y_Blcf, kB2, kB1, kN, kNot, kC2, kC1, kH4, kH3, kH2, kH1, kI2, kI1, TL.kTup, kLst, kX2, kX1, kV3, kV2, kV1, kS3, kS2, kS1, kR, kFr, qE, qB, kL, kLf, kLen, kBi, kIs, kM1, kApp2, kApp1, kExt2, kExt1, kPop, kPat1, kE2, kE1, kP, kRg, kIv, kA2, kO2, kA1, kO1, kTr, sAsg, sUnp, sUnpL, z_unpL, sSix3, sSix2, sSix1, sExp, sRet, sRai, sIte, sFor, y_var, y_cst, y_glb, y_bin, y_neg, y_not, y_cmp, y_chn, y_and, y_or, y_ife, y_tup, y_lst, y_idx, y_slc, y_rvs, y_rev, y_lc, y_lcf, y_len, y_bi, y_isi, y_mt, y_app, y_ext, y_pop, y_pat, y_ln, y_lc1, y_lset, kLs, y_lix, kLx1, kLx2, y_upp, kUp, y_edt, y_srk, kSk, srkV, y_sset, kSs, y_ch3, y_Bch3, kT1, kT2, kT3, kT4, y_idh, kIdh, y_lol, kLol, y_zip, kZ1, kZ2_ok, y_mk, kMk, y_lrg, y_lrg2, kLr, kLr1, kLr2, z_gh, z_swp, sSw1, sSw3, sSw4, sSw5, sSw6, y_pn, y_pc, y_rng, y_itv, y_an, y_on, z_nil, z_cons, z_asg, z_unp, z_six, z_exp, z_ret, z_retN, z_ite, z_for, z_whl, z_rai, z_tryB, c8_rt, c8_nx, cM_rt, cM_nx, z_pass, z_brk, z_cont, ev_call d_is_whole, this]
  rw [ap_succ d_is_run_of, runFn_ok rfl]
  simp [f_is_run_of, szl, Fn.start, bindT, E.isNil, y_Band, y_Bor, y_Bnot, y_Bcmp, y_Bchn, y_Bcall, y_Bisi, y_Bbi, y_Bvar, y_Bmt, y_Blen, y_Bbin, y_Bidx, y_Bcst, y_Blc, y_Blcf, kB2, kB1, kN, kNot, kC2, kC1, kH4, kH3, kH2, kH1, kI2, kI1, TL.kTup, kLst, kX2, kX1, kV3, kV2, kV1, kS3, kS2, kS1, kR, kFr, qE, qB, kL, kLf, kLen, kBi, kIs, kM1, kApp2, kApp1, kExt2, kExt1, kPop, kPat1, kE2, kE1, kP, kRg, kIv, kA2, kO2, kA1, kO1, kTr, sAsg, sUnp, sUnpL, z_unpL, sSix3, sSix2, sSix1, sExp, sRet, sRai, sIte, sFor, y_var, y_cst, y_glb, y_bin, y_neg, y_not, y_cmp, y_chn, y_and, y_or, y_ife, y_tup, y_lst, y_idx, y_slc, y_rvs, y_rev, y_lc, y_lcf, y_len, y_bi, y_isi, y_mt, y_app, y_ext, y_pop, y_pat, y_ln, y_lc1, y_lset, kLs, y_lix, kLx1, kLx2, y_upp, kUp, y_edt, y_srk, kSk, srkV, y_sset, kSs, y_ch3, y_Bch3, kT1, kT2, kT3, kT4, y_idh, kIdh, y_lol, kLol, y_zip, kZ1, kZ2_ok, y_mk, kMk, y_lrg, y_lrg2, kLr, kLr1, kLr2, z_gh, z_swp, sSw1, sSw3, sSw4, sSw5, sSw6, y_pn, y_pc, y_rng, y_itv, y_an, y_on, z_nil, z_cons, z_asg, z_unp, z_six, z_exp, z_ret, z_retN, z_ite, z_for, z_whl, z_rai, z_tryB, c8_rt, c8_nx, cM_rt, cM_nx, z_pass, z_brk, z_cont, hc _ rfl, hz, hr]
theorem q_need_run (n m : Nat) (ts : List (Int × Int)) (run : List Int) (μ : Mu) (hl : run.length ≤ 1000) (hr : run.length = ts.length) (h : ∀ x ∈ run, x = 1 ∨ x = -1) (hw : webB m ts = true) :
    ap (n + 6) "need_run" [.dt (webD m ts), .dt (.tuple (run.map .int))] μ = .ok (.dt .none) μ := by
  have e1 := q_need_web n m ts μ (by omega) hw
  have e2 := q_is_run_of (n + 3) (.int m) ts run μ hl hr h
  rw [ap_succ d_need_run, runFn_ok rfl]
  simp [f_need_run, szl, Fn.start, bindT, E.isNil, y_Band, y_Bor, y_Bnot, y_Bcmp, y_Bchn, y_Bcall, y_Bisi, y_Bbi, y_Bvar, y_Bmt, y_Blen, y_Bbin, y_Bidx, y_Bcst, y_Blc, y_Blcf, kB2, kB1, kN, kNot, kC2, kC1, kH4, kH3, kH2, kH1, kI2, kI1, TL.kTup, kLst, kX2, kX1, kV3, kV2, kV1, kS3, kS2, kS1, kR, kFr, qE, qB, kL, kLf, kLen, kBi, kIs, kM1, kApp2, kApp1, kExt2, kExt1, kPop, kPat1, kE2, kE1, kP, kRg, kIv, kA2, kO2, kA1, kO1, kTr, sAsg, sUnp, sUnpL, z_unpL, sSix3, sSix2, sSix1, sExp, sRet, sRai, sIte, sFor, y_var, y_cst, y_glb, y_bin, y_neg, y_not, y_cmp, y_chn, y_and, y_or, y_ife, y_tup, y_lst, y_idx, y_slc, y_rvs, y_rev, y_lc, y_lcf, y_len, y_bi, y_isi, y_mt, y_app, y_ext, y_pop, y_pat, y_ln, y_lc1, y_lset, kLs, y_lix, kLx1, kLx2, y_upp, kUp, y_edt, y_srk, kSk, srkV, y_sset, kSs, y_ch3, y_Bch3, kT1, kT2, kT3, kT4, y_idh, kIdh, y_lol, kLol, y_zip, kZ1, kZ2_ok, y_mk, kMk, y_lrg, y_lrg2, kLr, kLr1, kLr2, z_gh, z_swp, sSw1, sSw3, sSw4, sSw5, sSw6, y_pn, y_pc, y_rng, y_itv, y_an, y_on, z_nil, z_cons, z_asg, z_unp, z_six, z_exp, z_ret, z_retN, z_ite, z_for, z_whl, z_rai, z_tryB, c8_rt, c8_nx, cM_rt, cM_nx, z_pass, z_brk, z_cont, ev_call d_need_web, ev_call d_is_run_of, e1, e2]
-- needs: leads
theorem q_leads (n m : Nat) (ts : List (Int × Int)) (run : List Int) (μ : Mu) (hm : m ≤ 6) (ht : ts.length ≤ 100) (hs : Pl m ts) : ap (n + 1) "leads" [.dt (webD m ts), .dt (.tuple (run.map .int))] μ = .ok (.fr (toL m (ts.zip run))) μ := by
  obtain ⟨ρ', μ', h1, y4, y5, y6, y7, h2, h3⟩ := for_pre2 (ρ := [some (.dt (webD m ts)), some (.dt (.tuple (run.map .int))), some (.hd (μ.length + m)), none, none, none, none, none]) (μ := muL μ m fun _ => []) (i := 4) (j := 5) (body := TL.exec (R n) γ 1000 f_leads_b1) (fun q : (Int × Int) × Int => tieD q.1) (fun q => .int q.2)
    (fun pre ρ μ' => ∃ y4 y5 y6 y7, ρ = [some (.dt (webD m ts)), some (.dt (.tuple (run.map .int))), some (.hd (μ.length + m)), none, y4, y5, y6, y7] ∧ μ' = muL μ m fun p => toP pre p) (ts.zip run) ⟨_, _, _, _, rfl, rfl⟩ (by
    rintro pre a post e ρ μ1 ⟨y4, y5, y6, y7, rfl, rfl⟩
    have hb := hs a.1 (List.of_mem_zip (a := a.1) (b := a.2) (pre_sub e).1).1
    obtain ⟨⟨i, j⟩, w⟩ := a
    simp only at hb
    obtain ⟨i', rfl⟩ := Int.eq_ofNat_of_zero_le hb.1.1
    obtain ⟨j', rfl⟩ := Int.eq_ofNat_of_zero_le hb.2.1
    have pl : pre.length ≤ 100 := by
      have := congrArg List.length e
      simp at this
      omega
    have tl : ∀ p, (toP pre p).length ≤ 1000 := fun p => Nat.le_trans (toP_len pre p) (by omega)
    by_cases hw : w = 1
    · subst hw
      have g1 := kIdh_muL (μ := μ) (m := m) (p := i') (f := fun p => toP pre p) (by omega)
      have g2 := isL_muL (μ := μ) (m := m) (p := i') (f := fun p => toP pre p) (by omega)
      have g3 := kApp2_muL (μ := μ) (m := m) (p := i') (f := fun p => toP pre p) (x := (j' : Int)) (by omega) (tl _)
      refine ⟨[some (.dt (webD m ts)), some (.dt (.tuple (run.map .int))), some (.hd (μ.length + m)), none, some (.dt (tieD ((i' : Int), (j' : Int)))), some (.dt (.int 1)), some (.dt (.int i')), some (.dt (.int j'))], muL μ m (fun q => if q = i' then toP pre i' ++ [(j' : Int)] else toP pre q), ?_, _, _, _, _, rfl, ?_⟩
      · generalize muL μ m (fun p => toP pre p) = M1 at *
        generalize muL μ m (fun q => if q = i' then toP pre i' ++ [(j' : Int)] else toP pre q) = M2 at *
        have g1' : ∀ y, y = Vl.dt (.int (i' : Int)) → kIdh (μ.length + m) y M1 = .ok (.hd (μ.length + i')) M1 := by rintro y rfl; exact g1
        simp [szl, Fn.start, bindT, E.isNil, y_Band, y_Bor, y_Bnot, y_Bcmp, y_Bchn, y_Bcall, y_Bisi, y_Bbi, y_Bvar, y_Bmt, y_Blen, y_Bbin, y_Bidx, y_Bcst, y_Blc, y_Blcf, kB2, kB1, kN, kNot, kC2, kC1, kH4, kH3, kH2, kH1, kI2, kI1, TL.kTup, kLst, kX2, kX1, kV3, kV2, kV1, kS3, kS2, kS1, kR, kFr, qE, qB, kL, kLf, kLen, kBi, kIs, kM1, kApp1, kExt2, kExt1, kPop, kPat1, kE2, kE1, kP, kRg, kIv, kA2, kO2, kA1, kO1, kTr, sAsg, sUnp, sUnpL, z_unpL, sSix3, sSix2, sSix1, sExp, sRet, sRai, sIte, sFor, y_var, y_cst, y_glb, y_bin, y_neg, y_not, y_cmp, y_chn, y_and, y_or, y_ife, y_tup, y_lst, y_idx, y_slc, y_rvs, y_rev, y_lc, y_lcf, y_len, y_bi, y_isi, y_mt, y_app, y_ext, y_pop, y_pat, y_ln, y_lc1, y_lset, kLs, y_lix, kLx1, kLx2, y_upp, kUp, y_edt, y_srk, kSk, srkV, y_sset, kSs, y_ch3, y_Bch3, kT1, kT2, kT3, kT4, y_idh, y_lol, kLol, y_zip, kZ1, kZ2_ok, y_mk, kMk, y_lrg, y_lrg2, kLr, kLr1, kLr2, z_gh, z_swp, sSw1, sSw3, sSw4, sSw5, sSw6, y_pn, y_pc, y_rng, y_itv, y_an, y_on, z_nil, z_cons, z_asg, z_unp, z_six, z_exp, z_ret, z_retN, z_ite, z_for, z_whl, z_rai, z_tryB, c8_rt, c8_nx, cM_rt, cM_nx, z_pass, z_brk, z_cont, g1' _ rfl, g2, g3]
      · congr 1
        funext q
        rw [toP_snoc]
        by_cases h : q = i'
        · subst h; simp
        · have h' : ¬ (i' : Int) = (q : Int) := by omega
          simp [h, h']
    · have g1 := kIdh_muL (μ := μ) (m := m) (p := j') (f := fun p => toP pre p) (by omega)
      have g2 := isL_muL (μ := μ) (m := m) (p := j') (f := fun p => toP pre p) (by omega)
      have g3 := kApp2_muL (μ := μ) (m := m) (p := j') (f := fun p => toP pre p) (x := (i' : Int)) (by omega) (tl _)
      refine ⟨[some (.dt (webD m ts)), some (.dt (.tuple (run.map .int))), some (.hd (μ.length + m)), none, some (.dt (tieD ((i' : Int), (j' : Int)))), some (.dt (.int w)), some (.dt (.int j')), some (.dt (.int i'))], muL μ m (fun q => if q = j' then toP pre j' ++ [(i' : Int)] else toP pre q), ?_, _, _, _, _, rfl, ?_⟩
      · generalize muL μ m (fun p => toP pre p) = M1 at *
        generalize muL μ m (fun q => if q = j' then toP pre j' ++ [(i' : Int)] else toP pre q) = M2 at *
        have g1' : ∀ y, y = Vl.dt (.int (j' : Int)) → kIdh (μ.length + m) y M1 = .ok (.hd (μ.length + j')) M1 := by rintro y rfl; exact g1
        have rv : revF (tieD ((i' : Int), (j' : Int))) = some (.dt (.tuple [.int (j' : Int), .int (i' : Int)])) := rfl
        simp [szl, Fn.start, bindT, E.isNil, y_Band, y_Bor, y_Bnot, y_Bcmp, y_Bchn, y_Bcall, y_Bisi, y_Bbi, y_Bvar, y_Bmt, y_Blen, y_Bbin, y_Bidx, y_Bcst, y_Blc, y_Blcf, kB2, kB1, kN, kNot, kC2, kC1, kH4, kH3, kH2, kH1, kI2, kI1, TL.kTup, kLst, kX2, kX1, kV3, kV2, kV1, kS3, kS2, kS1, kR, kFr, qE, qB, kL, kLf, kLen, kBi, kIs, kM1, kApp1, kExt2, kExt1, kPop, kPat1, kE2, kE1, kP, kRg, kIv, kA2, kO2, kA1, kO1, kTr, sAsg, sUnp, sUnpL, z_unpL, sSix3, sSix2, sSix1, sExp, sRet, sRai, sIte, sFor, y_var, y_cst, y_glb, y_bin, y_neg, y_not, y_cmp, y_chn, y_and, y_or, y_ife, y_tup, y_lst, y_idx, y_slc, y_rvs, y_rev, y_lc, y_lcf, y_len, y_bi, y_isi, y_mt, y_app, y_ext, y_pop, y_pat, y_ln, y_lc1, y_lset, kLs, y_lix, kLx1, kLx2, y_upp, kUp, y_edt, y_srk, kSk, srkV, y_sset, kSs, y_ch3, y_Bch3, kT1, kT2, kT3, kT4, y_idh, y_lol, kLol, y_zip, kZ1, kZ2_ok, y_mk, kMk, y_lrg, y_lrg2, kLr, kLr1, kLr2, z_gh, z_swp, sSw1, sSw3, sSw4, sSw5, sSw6, y_pn, y_pc, y_rng, y_itv, y_an, y_on, z_nil, z_cons, z_asg, z_unp, z_six, z_exp, z_ret, z_retN, z_ite, z_for, z_whl, z_rai, z_tryB, c8_rt, c8_nx, cM_rt, cM_nx, z_pass, z_brk, z_cont, g1' _ rfl, g2, g3, hw, rv]
      · congr 1
        funext q
        rw [toP_snoc]
        by_cases h : q = j'
        · subst h; simp [hw]
        · have h' : ¬ (j' : Int) = (q : Int) := by omega
          simp [h, hw, h'])
  subst h2 h3
  have hr := rg_1 (m : Int) (by omega)
  simp only [Int.toNat_natCast] at hr
  have hz : ¬ sizeLine < m := szn (by omega)
  rw [← zipD] at h1
  have fin := fin_lol (μ := μ) (m := m) (f := fun p => toP (ts.zip run) p)
  have m0 := muL_0 (μ := μ) (m := m)
  rw [ap_succ d_leads, runFn_ok rfl]
  simp [f_leads, szl, Fn.start, bindT, E.isNil, y_Band, y_Bor, y_Bnot, y_Bcmp, y_Bchn, y_Bcall, y_Bisi, y_Bbi, y_Bvar, y_Bmt, y_Blen, y_Bbin, y_Bidx, y_Bcst, y_Blc, y_Blcf, kB2, kB1, kN, kNot, kC2, kC1, kH4, kH3, kH2, kH1, kI2, kI1, TL.kTup, kLst, kX2, kX1, kV3, kV2, kV1, kS3, kS2, kS1, kR, kFr, qE, qB, kL, kLf, kLen, kBi, kIs, kM1, kApp2, kApp1, kExt2, kExt1, kPop, kPat1, kE2, kE1, kP, kRg, kIv, kA2, kO2, kA1, kO1, kTr, sAsg, sUnp, sUnpL, z_unpL, sSix3, sSix2, sSix1, sExp, sRet, sRai, sIte, sFor, y_var, y_cst, y_glb, y_bin, y_neg, y_not, y_cmp, y_chn, y_and, y_or, y_ife, y_tup, y_lst, y_idx, y_slc, y_rvs, y_rev, y_lc, y_lcf, y_len, y_bi, y_isi, y_mt, y_app, y_ext, y_pop, y_pat, y_ln, y_lc1, y_lset, kLs, y_lix, kLx1, kLx2, y_upp, kUp, y_edt, y_srk, kSk, srkV, y_sset, kSs, y_ch3, y_Bch3, kT1, kT2, kT3, kT4, y_idh, kIdh, y_lol, kLol, y_zip, kZ1, kZ2_ok, y_mk, kMk, y_lrg, y_lrg2, kLr, kLr1, kLr2, z_gh, z_swp, sSw1, sSw3, sSw4, sSw5, sSw6, y_pn, y_pc, y_rng, y_itv, y_an, y_on, z_nil, z_cons, z_asg, z_unp, z_six, z_exp, z_ret, z_retN, z_ite, z_for, z_whl, z_rai, z_tryB, c8_rt, c8_nx, cM_rt, cM_nx, z_pass, z_brk, z_cont, hr, hz, m0]
  rw [h1]
  simp [szl, Fn.start, bindT, E.isNil, y_Band, y_Bor, y_Bnot, y_Bcmp, y_Bchn, y_Bcall, y_Bisi, y_Bbi, y_Bvar, y_Bmt, y_Blen, y_Bbin, y_Bidx, y_Bcst, y_Blc, y_Blcf, kB2, kB1, kN, kNot, kC2, kC1, kH4, kH3, kH2, kH1, kI2, kI1, TL.kTup, kLst, kX2, kX1, kV3, kV2, kV1, kS3, kS2, kS1, kR, kFr, qE, qB, kL, kLf, kLen, kBi, kIs, kM1, kApp2, kApp1, kExt2, kExt1, kPop, kPat1, kE2, kE1, kP, kRg, kIv, kA2, kO2, kA1, kO1, kTr, sAsg, sUnp, sUnpL, z_unpL, sSix3, sSix2, sSix1, sExp, sRet, sRai, sIte, sFor, y_var, y_cst, y_glb, y_bin, y_neg, y_not, y_cmp, y_chn, y_and, y_or, y_ife, y_tup, y_lst, y_idx, y_slc, y_rvs, y_rev, y_lc, y_lcf, y_len, y_bi, y_isi, y_mt, y_app, y_ext, y_pop, y_pat, y_ln, y_lc1, y_lset, kLs, y_lix, kLx1, kLx2, y_upp, kUp, y_edt, y_srk, kSk, srkV, y_sset, kSs, y_ch3, y_Bch3, kT1, kT2, kT3, kT4, y_idh, kIdh, y_lol, kLol, y_zip, kZ1, kZ2_ok, y_mk, kMk, y_lrg, y_lrg2, kLr, kLr1, kLr2, z_gh, z_swp, sSw1, sSw3, sSw4, sSw5, sSw6, y_pn, y_pc, y_rng, y_itv, y_an, y_on, z_nil, z_cons, z_asg, z_unp, z_six, z_exp, z_ret, z_retN, z_ite, z_for, z_whl, z_rai, z_tryB, c8_rt, c8_nx, cM_rt, cM_nx, z_pass, z_brk, z_cont]
  exact fin
-- needs: all_runs
theorem bnR (r : List Int) (i : Int) (h : r.length ≤ 1000) : binF .Add (rwT r) (.tuple [.int i]) = some (.dt (rwT (r ++ [i]))) := by
  unfold rwT
  rw [bn_addt _ _ (szle (by simp; omega))]
  simp
theorem q_all_runs (n : Nat) (m : D) (ts : List (Int × Int)) (μ : Mu) (ht : ts.length ≤ 15) : ap (n + 1) "all_runs" [.dt (.tuple [m, .tuple (ts.map tieD)])] μ = .ok (.fr ((allR ts.length).map rwT)) μ := by
  obtain ⟨ρ', μ', h1, y, z, h2, h3⟩ := for_pre (ρ := [some (.dt (.tuple [m, .tuple (ts.map tieD)])), some (.dt (.list ((rawR 0).map rwT))), none, none]) (μ := μ) (i := 2) (body := TL.exec (R n) γ 1000 f_all_runs_b1) tieD
    (fun pre ρ μ' => ∃ y z, ρ = [some (.dt (.tuple [m, .tuple (ts.map tieD)])), some (.dt (.list ((rawR pre.length).map rwT))), y, z] ∧ μ' = μ) ts ⟨_, _, rfl, rfl⟩ (by
    rintro pre a post e ρ μ1 ⟨y, z, rfl, rfl⟩
    have pl : pre.length ≤ 14 := by
      have := congrArg List.length e
      simp at this
      omega
    rw [List.length_append, List.length_singleton]
    generalize pre.length = k at *
    have hk : (rawR k).length ≤ 16384 := by
      rw [rawR_len]
      exact Nat.le_trans (Nat.pow_le_pow_right (by omega) pl) (by decide)
    have hz : ¬ sizeLine < (rawR k).length := szn (by omega)
    have rl : ∀ r ∈ rawR k, r.length ≤ 1000 := fun r hr => by rw [(rawR_mem.mp hr).1]; omega
    have c1 : ∀ ρ : Ro, ∀ y1 y2 y3, ρ = [y1, y2, y3, z] → lcL [3] none (qE (R n) γ f_all_runs_e1) ρ ((rawR k).map rwT) μ1 = .ok (((rawR k).map (· ++ [-1])).map rwT) μ1 := by
      rintro ρ y1 y2 y3 rfl
      rw [List.map_map]
      refine lcm rwT _ _ fun r hr => ?_
      have := bnR r (-1) (rl r hr)
      simp [szl, Fn.start, bindT, E.isNil, y_Band, y_Bor, y_Bnot, y_Bcmp, y_Bchn, y_Bcall, y_Bisi, y_Bbi, y_Bvar, y_Bmt, y_Blen, y_Bbin, y_Bidx, y_Bcst, y_Blc, y_Blcf, kB2, kB1, kN, kNot, kC2, kC1, kH4, kH3, kH2, kH1, kI2, kI1, TL.kTup, kLst, kX2, kX1, kV3, kV2, kV1, kS3, kS2, kS1, kR, kFr, qE, qB, kL, kLf, kLen, kBi, kIs, kM1, kApp2, kApp1, kExt2, kExt1, kPop, kPat1, kE2, kE1, kP, kRg, kIv, kA2, kO2, kA1, kO1, kTr, sAsg, sUnp, sUnpL, z_unpL, sSix3, sSix2, sSix1, sExp, sRet, sRai, sIte, sFor, y_var, y_cst, y_glb, y_bin, y_neg, y_not, y_cmp, y_chn, y_and, y_or, y_ife, y_tup, y_lst, y_idx, y_slc, y_rvs, y_rev, y_lc, y_lcf, y_len, y_bi, y_isi, y_mt, y_app, y_ext, y_pop, y_pat, y_ln, y_lc1, y_lset, kLs, y_lix, kLx1, kLx2, y_upp, kUp, y_edt, y_srk, kSk, srkV, y_sset, kSs, y_ch3, y_Bch3, kT1, kT2, kT3, kT4, y_idh, kIdh, y_lol, kLol, y_zip, kZ1, kZ2_ok, y_mk, kMk, y_lrg, y_lrg2, kLr, kLr1, kLr2, z_gh, z_swp, sSw1, sSw3, sSw4, sSw5, sSw6, y_pn, y_pc, y_rng, y_itv, y_an, y_on, z_nil, z_cons, z_asg, z_unp, z_six, z_exp, z_ret, z_retN, z_ite, z_for, z_whl, z_rai, z_tryB, c8_rt, c8_nx, cM_rt, cM_nx, z_pass, z_brk, z_cont, this]
    have c2 : ∀ ρ : Ro, ∀ y1 y2 y3, ρ = [y1, y2, y3, z] → lcL [3] none (qE (R n) γ f_all_runs_e2) ρ ((rawR k).map rwT) μ1 = .ok (((rawR k).map (· ++ [1])).map rwT) μ1 := by
      rintro ρ y1 y2 y3 rfl
      rw [List.map_map]
      refine lcm rwT _ _ fun r hr => ?_
      have := bnR r 1 (rl r hr)
      simp [szl, Fn.start, bindT, E.isNil, y_Band, y_Bor, y_Bnot, y_Bcmp, y_Bchn, y_Bcall, y_Bisi, y_Bbi, y_Bvar, y_Bmt, y_Blen, y_Bbin, y_Bidx, y_Bcst, y_Blc, y_Blcf, kB2, kB1, kN, kNot, kC2, kC1, kH4, kH3, kH2, kH1, kI2, kI1, TL.kTup, kLst, kX2, kX1, kV3, kV2, kV1, kS3, kS2, kS1, kR, kFr, qE, qB, kL, kLf, kLen, kBi, kIs, kM1, kApp2, kApp1, kExt2, kExt1, kPop, kPat1, kE2, kE1, kP, kRg, kIv, kA2, kO2, kA1, kO1, kTr, sAsg, sUnp, sUnpL, z_unpL, sSix3, sSix2, sSix1, sExp, sRet, sRai, sIte, sFor, y_var, y_cst, y_glb, y_bin, y_neg, y_not, y_cmp, y_chn, y_and, y_or, y_ife, y_tup, y_lst, y_idx, y_slc, y_rvs, y_rev, y_lc, y_lcf, y_len, y_bi, y_isi, y_mt, y_app, y_ext, y_pop, y_pat, y_ln, y_lc1, y_lset, kLs, y_lix, kLx1, kLx2, y_upp, kUp, y_edt, y_srk, kSk, srkV, y_sset, kSs, y_ch3, y_Bch3, kT1, kT2, kT3, kT4, y_idh, kIdh, y_lol, kLol, y_zip, kZ1, kZ2_ok, y_mk, kMk, y_lrg, y_lrg2, kLr, kLr1, kLr2, z_gh, z_swp, sSw1, sSw3, sSw4, sSw5, sSw6, y_pn, y_pc, y_rng, y_itv, y_an, y_on, z_nil, z_cons, z_asg, z_unp, z_six, z_exp, z_ret, z_retN, z_ite, z_for, z_whl, z_rai, z_tryB, c8_rt, c8_nx, cM_rt, cM_nx, z_pass, z_brk, z_cont, this]
    have ad := bn_addl (((rawR k).map (· ++ [-1])).map rwT) (((rawR k).map (· ++ [1])).map rwT) (szle (by simp only [List.length_map]; omega))
    refine ⟨[some (.dt (.tuple [m, .tuple (ts.map tieD)])), some (.dt (.list ((rawR (k + 1)).map rwT))), some (.dt (tieD a)), z], μ1, ?_, _, _, rfl, rfl⟩
    have e3 : (rawR (k + 1)).map rwT = ((rawR k).map (· ++ [-1])).map rwT ++ ((rawR k).map (· ++ [1])).map rwT := by
      show List.map rwT (_ ++ _) = _
      rw [List.map_append]
    rw [e3]
    have hz' : ¬ sizeLine < ((rawR k).map rwT).length := by rw [List.length_map]; exact hz
    generalize (rawR k).map rwT = L0 at *
    generalize ((rawR k).map (· ++ [-1])).map rwT = L1 at *
    generalize ((rawR k).map (· ++ [1])).map rwT = L2 at *
    simp [szl, Fn.start, bindT, E.isNil, y_Band, y_Bor, y_Bnot, y_Bcmp, y_Bchn, y_Bcall, y_Bisi, y_Bbi, y_Bvar, y_Bmt, y_Blen, y_Bbin, y_Bidx, y_Bcst, y_Blc, y_Blcf, kB2, kB1, kN, kNot, kC2, kC1, kH4, kH3, kH2, kH1, kI2, kI1, TL.kTup, kLst, kX2, kX1, kV3, kV2, kV1, kS3, kS2, kS1, kR, kFr, qE, qB, kL, kLf, kLen, kBi, kIs, kM1, kApp2, kApp1, kExt2, kExt1, kPop, kPat1, kE2, kE1, kP, kRg, kIv, kA2, kO2, kA1, kO1, kTr, sAsg, sUnp, sUnpL, z_unpL, sSix3, sSix2, sSix1, sExp, sRet, sRai, sIte, sFor, y_var, y_cst, y_glb, y_bin, y_neg, y_not, y_cmp, y_chn, y_and, y_or, y_ife, y_tup, y_lst, y_idx, y_slc, y_rvs, y_rev, y_lc, y_lcf, y_len, y_bi, y_isi, y_mt, y_app, y_ext, y_pop, y_pat, y_ln, y_lc1, y_lset, kLs, y_lix, kLx1, kLx2, y_upp, kUp, y_edt, y_srk, kSk, srkV, y_sset, kSs, y_ch3, y_Bch3, kT1, kT2, kT3, kT4, y_idh, kIdh, y_lol, kLol, y_zip, kZ1, kZ2_ok, y_mk, kMk, y_lrg, y_lrg2, kLr, kLr1, kLr2, z_gh, z_swp, sSw1, sSw3, sSw4, sSw5, sSw6, y_pn, y_pc, y_rng, y_itv, y_an, y_on, z_nil, z_cons, z_asg, z_unp, z_six, z_exp, z_ret, z_retN, z_ite, z_for, z_whl, z_rai, z_tryB, c8_rt, c8_nx, cM_rt, cM_nx, z_pass, z_brk, z_cont, c1 _ _ _ _ rfl, c2 _ _ _ _ rfl, ad, hz'])
  subst h2 h3
  have sr := bi_srtR ts.length
  rw [ap_succ d_all_runs, runFn_ok rfl]
  have e0 : (PyData.list [.tuple []]) = .list ((rawR 0).map rwT) := rfl
  simp [f_all_runs, szl, Fn.start, bindT, E.isNil, y_Band, y_Bor, y_Bnot, y_Bcmp, y_Bchn, y_Bcall, y_Bisi, y_Bbi, y_Bvar, y_Bmt, y_Blen, y_Bbin, y_Bidx, y_Bcst, y_Blc, y_Blcf, kB2, kB1, kN, kNot, kC2, kC1, kH4, kH3, kH2, kH1, kI2, kI1, TL.kTup, kLst, kX2, kX1, kV3, kV2, kV1, kS3, kS2, kS1, kR, kFr, qE, qB, kL, kLf, kLen, kBi, kIs, kM1, kApp2, kApp1, kExt2, kExt1, kPop, kPat1, kE2, kE1, kP, kRg, kIv, kA2, kO2, kA1, kO1, kTr, sAsg, sUnp, sUnpL, z_unpL, sSix3, sSix2, sSix1, sExp, sRet, sRai, sIte, sFor, y_var, y_cst, y_glb, y_bin, y_neg, y_not, y_cmp, y_chn, y_and, y_or, y_ife, y_tup, y_lst, y_idx, y_slc, y_rvs, y_rev, y_lc, y_lcf, y_len, y_bi, y_isi, y_mt, y_app, y_ext, y_pop, y_pat, y_ln, y_lc1, y_lset, kLs, y_lix, kLx1, kLx2, y_upp, kUp, y_edt, y_srk, kSk, srkV, y_sset, kSs, y_ch3, y_Bch3, kT1, kT2, kT3, kT4, y_idh, kIdh, y_lol, kLol, y_zip, kZ1, kZ2_ok, y_mk, kMk, y_lrg, y_lrg2, kLr, kLr1, kLr2, z_gh, z_swp, sSw1, sSw3, sSw4, sSw5, sSw6, y_pn, y_pc, y_rng, y_itv, y_an, y_on, z_nil, z_cons, z_asg, z_unp, z_six, z_exp, z_ret, z_retN, z_ite, z_for, z_whl, z_rai, z_tryB, c8_rt, c8_nx, cM_rt, cM_nx, z_pass, z_brk, z_cont]
  rw [e0, h1]
  generalize (rawR ts.length).map rwT = L0 at *
  simp [szl, Fn.start, bindT, E.isNil, y_Band, y_Bor, y_Bnot, y_Bcmp, y_Bchn, y_Bcall, y_Bisi, y_Bbi, y_Bvar, y_Bmt, y_Blen, y_Bbin, y_Bidx, y_Bcst, y_Blc, y_Blcf, kB2, kB1, kN, kNot, kC2, kC1, kH4, kH3, kH2, kH1, kI2, kI1, TL.kTup, kLst, kX2, kX1, kV3, kV2, kV1, kS3, kS2, kS1, kR, kFr, qE, qB, kL, kLf, kLen, kBi, kIs, kM1, kApp2, kApp1, kExt2, kExt1, kPop, kPat1, kE2, kE1, kP, kRg, kIv, kA2, kO2, kA1, kO1, kTr, sAsg, sUnp, sUnpL, z_unpL, sSix3, sSix2, sSix1, sExp, sRet, sRai, sIte, sFor, y_var, y_cst, y_glb, y_bin, y_neg, y_not, y_cmp, y_chn, y_and, y_or, y_ife, y_tup, y_lst, y_idx, y_slc, y_rvs, y_rev, y_lc, y_lcf, y_len, y_bi, y_isi, y_mt, y_app, y_ext, y_pop, y_pat, y_ln, y_lc1, y_lset, kLs, y_lix, kLx1, kLx2, y_upp, kUp, y_edt, y_srk, kSk, srkV, y_sset, kSs, y_ch3, y_Bch3, kT1, kT2, kT3, kT4, y_idh, kIdh, y_lol, kLol, y_zip, kZ1, kZ2_ok, y_mk, kMk, y_lrg, y_lrg2, kLr, kLr1, kLr2, z_gh, z_swp, sSw1, sSw3, sSw4, sSw5, sSw6, y_pn, y_pc, y_rng, y_itv, y_an, y_on, z_nil, z_cons, z_asg, z_unp, z_six, z_exp, z_ret, z_retN, z_ite, z_for, z_whl, z_rai, z_tryB, c8_rt, c8_nx, cM_rt, cM_nx, z_pass, z_brk, z_cont, sr]
-- needs: does_pass leads
theorem l_dp2 (n m : Nat) (ts : List (Int × Int)) (run : List Int) (μ : Mu) (hm : m ≤ 6) (ht : ts.length ≤ 100) (hs : Pl m ts) (p : Nat) (hp : p < m) (x0 x1 y4 y5 : Option Vl) :
    ((toP (ts.zip run) p).all (fun b => (toP (ts.zip run) b).all fun c => decide (c ∈ toP (ts.zip run) p)) = false ∧ TL.exec (R n) γ 1000 f_does_pass_b1 [x0, x1, some (.dt (.list (toL m (ts.zip run)))), some (.dt (.int (p : Int))), y4, y5] μ = .rt (.dt (.bool false)) μ) ∨
    ((toP (ts.zip run) p).all (fun b => (toP (ts.zip run) b).all fun c => decide (c ∈ toP (ts.zip run) p)) = true ∧ ∃ z4 z5, TL.exec (R n) γ 1000 f_does_pass_b1 [x0, x1, some (.dt (.list (toL m (ts.zip run)))), some (.dt (.int (p : Int))), y4, y5] μ = .nx [x0, x1, some (.dt (.list (toL m (ts.zip run)))), some (.dt (.int (p : Int))), z4, z5] μ) := by
  have hx := at_toL (m := m) (pr := ts.zip run) (p := (p : Int)) (by omega) (by omega)
  have tl : ∀ q, (toP (ts.zip run) q).length ≤ 100 := fun q => Nat.le_trans (toP_len _ q) (by simp; omega)
  have hb := fun x hx => toP_pl hs (run := run) (p := (p : Int)) (x := x) hx
  have ho : ∀ o : Int, 0 ≤ o → o < m → atI (toL m (ts.zip run)) o = some (.list ((toP (ts.zip run) o).map .int)) := fun o h0 h1 => at_toL h0 h1
  generalize toL m (ts.zip run) = TO at *
  generalize hL : toP (ts.zip run) = L at *
  have body : ∀ a ∈ L p, ∀ ρ : Ro, (∃ y4 y5, ρ = [x0, x1, some (.dt (.list TO)), some (.dt (.int (p : Int))), y4, y5]) →
      (((L a).all fun c => decide (c ∈ L p)) = false → TL.exec (R n) γ 1000 f_does_pass_b2 (ρ.set 4 (some (.dt (.int a)))) μ = .rt (.dt (.bool false)) μ) ∧ (((L a).all fun c => decide (c ∈ L p)) = true → ∃ ρ2, TL.exec (R n) γ 1000 f_does_pass_b2 (ρ.set 4 (some (.dt (.int a)))) μ = .nx ρ2 μ ∧ (∃ y4 y5, ρ2 = [x0, x1, some (.dt (.list TO)), some (.dt (.int (p : Int))), y4, y5])) := by
    rintro a ha ρ ⟨y4, y5, rfl⟩
    have hz : ¬ sizeLine < (L a).length := szn (by have := tl a; omega)
    have ha' := ho a (hb a ha).1 (hb a ha).2
    have hc : ∀ ρ : Ro, ρ = [x0, x1, some (.dt (.list TO)), some (.dt (.int (p : Int))), some (.dt (.int a)), y5] → lcL [5] none (qE (R n) γ f_does_pass_e1) ρ ((L a).map .int) μ = .ok ((L a).map fun c => .bool (decide (c ∈ L p))) μ := by
      rintro ρ rfl
      refine lcm (fun x : Int => PyData.int x) _ _ fun c _ => ?_
      have := in_intl c (L p)
      simp [szl, Fn.start, bindT, E.isNil, y_Band, y_Bor, y_Bnot, y_Bcmp, y_Bchn, y_Bcall, y_Bisi, y_Bbi, y_Bvar, y_Bmt, y_Blen, y_Bbin, y_Bidx, y_Bcst, y_Blc, y_Blcf, kB2, kB1, kN, kNot, kC2, kC1, kH4, kH3, kH2, kH1, kI2, kI1, TL.kTup, kLst, kX2, kX1, kV3, kV2, kV1, kS3, kS2, kS1, kR, kFr, qE, qB, kL, kLf, kLen, kBi, kIs, kM1, kApp2, kApp1, kExt2, kExt1, kPop, kPat1, kE2, kE1, kP, kRg, kIv, kA2, kO2, kA1, kO1, kTr, sAsg, sUnp, sUnpL, z_unpL, sSix3, sSix2, sSix1, sExp, sRet, sRai, sIte, sFor, y_var, y_cst, y_glb, y_bin, y_neg, y_not, y_cmp, y_chn, y_and, y_or, y_ife, y_tup, y_lst, y_idx, y_slc, y_rvs, y_rev, y_lc, y_lcf, y_len, y_bi, y_isi, y_mt, y_app, y_ext, y_pop, y_pat, y_ln, y_lc1, y_lset, kLs, y_lix, kLx1, kLx2, y_upp, kUp, y_edt, y_srk, kSk, srkV, y_sset, kSs, y_ch3, y_Bch3, kT1, kT2, kT3, kT4, y_idh, kIdh, y_lol, kLol, y_zip, kZ1, kZ2_ok, y_mk, kMk, y_lrg, y_lrg2, kLr, kLr1, kLr2, z_gh, z_swp, sSw1, sSw3, sSw4, sSw5, sSw6, y_pn, y_pc, y_rng, y_itv, y_an, y_on, z_nil, z_cons, z_asg, z_unp, z_six, z_exp, z_ret, z_retN, z_ite, z_for, z_whl, z_rai, z_tryB, c8_rt, c8_nx, cM_rt, cM_nx, z_pass, z_brk, z_cont, hx, this]
    have hk : ((L a).map fun c => decide (c ∈ L p)).all id = (L a).all fun c => decide (c ∈ L p) := by rw [List.all_map]; rfl
    cases hq : (L a).all fun c => decide (c ∈ L p) with
    | false =>
      refine ⟨fun _ => ?_, fun z => by cases z⟩
      rw [hq] at hk
      simp [szl, Fn.start, bindT, E.isNil, y_Band, y_Bor, y_Bnot, y_Bcmp, y_Bchn, y_Bcall, y_Bisi, y_Bbi, y_Bvar, y_Bmt, y_Blen, y_Bbin, y_Bidx, y_Bcst, y_Blc, y_Blcf, kB2, kB1, kN, kNot, kC2, kC1, kH4, kH3, kH2, kH1, kI2, kI1, TL.kTup, kLst, kX2, kX1, kV3, kV2, kV1, kS3, kS2, kS1, kR, kFr, qE, qB, kL, kLf, kLen, kBi, kIs, kM1, kApp2, kApp1, kExt2, kExt1, kPop, kPat1, kE2, kE1, kP, kRg, kIv, kA2, kO2, kA1, kO1, kTr, sAsg, sUnp, sUnpL, z_unpL, sSix3, sSix2, sSix1, sExp, sRet, sRai, sIte, sFor, y_var, y_cst, y_glb, y_bin, y_neg, y_not, y_cmp, y_chn, y_and, y_or, y_ife, y_tup, y_lst, y_idx, y_slc, y_rvs, y_rev, y_lc, y_lcf, y_len, y_bi, y_isi, y_mt, y_app, y_ext, y_pop, y_pat, y_ln, y_lc1, y_lset, kLs, y_lix, kLx1, kLx2, y_upp, kUp, y_edt, y_srk, kSk, srkV, y_sset, kSs, y_ch3, y_Bch3, kT1, kT2, kT3, kT4, y_idh, kIdh, y_lol, kLol, y_zip, kZ1, kZ2_ok, y_mk, kMk, y_lrg, y_lrg2, kLr, kLr1, kLr2, z_gh, z_swp, sSw1, sSw3, sSw4, sSw5, sSw6, y_pn, y_pc, y_rng, y_itv, y_an, y_on, z_nil, z_cons, z_asg, z_unp, z_six, z_exp, z_ret, z_retN, z_ite, z_for, z_whl, z_rai, z_tryB, c8_rt, c8_nx, cM_rt, cM_nx, z_pass, z_brk, z_cont, ha', hc _ rfl, hz, hk, -List.all_map, -List.all_eq_true, -List.all_eq_false]
    | true =>
      refine ⟨fun z => (by cases z), fun _ => ⟨[x0, x1, some (.dt (.list TO)), some (.dt (.int (p : Int))), some (.dt (.int a)), y5], ?_, _, _, rfl⟩⟩
      rw [hq] at hk
      simp [szl, Fn.start, bindT, E.isNil, y_Band, y_Bor, y_Bnot, y_Bcmp, y_Bchn, y_Bcall, y_Bisi, y_Bbi, y_Bvar, y_Bmt, y_Blen, y_Bbin, y_Bidx, y_Bcst, y_Blc, y_Blcf, kB2, kB1, kN, kNot, kC2, kC1, kH4, kH3, kH2, kH1, kI2, kI1, TL.kTup, kLst, kX2, kX1, kV3, kV2, kV1, kS3, kS2, kS1, kR, kFr, qE, qB, kL, kLf, kLen, kBi, kIs, kM1, kApp2, kApp1, kExt2, kExt1, kPop, kPat1, kE2, kE1, kP, kRg, kIv, kA2, kO2, kA1, kO1, kTr, sAsg, sUnp, sUnpL, z_unpL, sSix3, sSix2, sSix1, sExp, sRet, sRai, sIte, sFor, y_var, y_cst, y_glb, y_bin, y_neg, y_not, y_cmp, y_chn, y_and, y_or, y_ife, y_tup, y_lst, y_idx, y_slc, y_rvs, y_rev, y_lc, y_lcf, y_len, y_bi, y_isi, y_mt, y_app, y_ext, y_pop, y_pat, y_ln, y_lc1, y_lset, kLs, y_lix, kLx1, kLx2, y_upp, kUp, y_edt, y_srk, kSk, srkV, y_sset, kSs, y_ch3, y_Bch3, kT1, kT2, kT3, kT4, y_idh, kIdh, y_lol, kLol, y_zip, kZ1, kZ2_ok, y_mk, kMk, y_lrg, y_lrg2, kLr, kLr1, kLr2, z_gh, z_swp, sSw1, sSw3, sSw4, sSw5, sSw6, y_pn, y_pc, y_rng, y_itv, y_an, y_on, z_nil, z_cons, z_asg, z_unp, z_six, z_exp, z_ret, z_retN, z_ite, z_for, z_whl, z_rai, z_tryB, c8_rt, c8_nx, cM_rt, cM_nx, z_pass, z_brk, z_cont, ha', hc _ rfl, hz, hk, -List.all_map, -List.all_eq_true, -List.all_eq_false]
  rcases for_all (μ := μ) (i := 4) (body := TL.exec (R n) γ 1000 f_does_pass_b2) (fun x : Int => PyData.int x) (fun o => (L o).all fun c => decide (c ∈ L p)) (fun ρ => ∃ y4 y5, ρ = [x0, x1, some (.dt (.list TO)), some (.dt (.int (p : Int))), y4, y5]) (L p) _ ⟨y4, y5, rfl⟩ body with ⟨h1, h2⟩ | ⟨h1, ρ', h2, z4, z5, rfl⟩
  · refine .inl ⟨h1, ?_⟩
    simp [szl, Fn.start, bindT, E.isNil, y_Band, y_Bor, y_Bnot, y_Bcmp, y_Bchn, y_Bcall, y_Bisi, y_Bbi, y_Bvar, y_Bmt, y_Blen, y_Bbin, y_Bidx, y_Bcst, y_Blc, y_Blcf, kB2, kB1, kN, kNot, kC2, kC1, kH4, kH3, kH2, kH1, kI2, kI1, TL.kTup, kLst, kX2, kX1, kV3, kV2, kV1, kS3, kS2, kS1, kR, kFr, qE, qB, kL, kLf, kLen, kBi, kIs, kM1, kApp2, kApp1, kExt2, kExt1, kPop, kPat1, kE2, kE1, kP, kRg, kIv, kA2, kO2, kA1, kO1, kTr, sAsg, sUnp, sUnpL, z_unpL, sSix3, sSix2, sSix1, sExp, sRet, sRai, sIte, sFor, y_var, y_cst, y_glb, y_bin, y_neg, y_not, y_cmp, y_chn, y_and, y_or, y_ife, y_tup, y_lst, y_idx, y_slc, y_rvs, y_rev, y_lc, y_lcf, y_len, y_bi, y_isi, y_mt, y_app, y_ext, y_pop, y_pat, y_ln, y_lc1, y_lset, kLs, y_lix, kLx1, kLx2, y_upp, kUp, y_edt, y_srk, kSk, srkV, y_sset, kSs, y_ch3, y_Bch3, kT1, kT2, kT3, kT4, y_idh, kIdh, y_lol, kLol, y_zip, kZ1, kZ2_ok, y_mk, kMk, y_lrg, y_lrg2, kLr, kLr1, kLr2, z_gh, z_swp, sSw1, sSw3, sSw4, sSw5, sSw6, y_pn, y_pc, y_rng, y_itv, y_an, y_on, z_nil, z_cons, z_asg, z_unp, z_six, z_exp, z_ret, z_retN, z_ite, z_for, z_whl, z_rai, z_tryB, c8_rt, c8_nx, cM_rt, cM_nx, z_pass, z_brk, z_cont, hx]
    rw [h2]
    simp
  · refine .inr ⟨h1, z4, z5, ?_⟩
    simp [szl, Fn.start, bindT, E.isNil, y_Band, y_Bor, y_Bnot, y_Bcmp, y_Bchn, y_Bcall, y_Bisi, y_Bbi, y_Bvar, y_Bmt, y_Blen, y_Bbin, y_Bidx, y_Bcst, y_Blc, y_Blcf, kB2, kB1, kN, kNot, kC2, kC1, kH4, kH3, kH2, kH1, kI2, kI1, TL.kTup, kLst, kX2, kX1, kV3, kV2, kV1, kS3, kS2, kS1, kR, kFr, qE, qB, kL, kLf, kLen, kBi, kIs, kM1, kApp2, kApp1, kExt2, kExt1, kPop, kPat1, kE2, kE1, kP, kRg, kIv, kA2, kO2, kA1, kO1, kTr, sAsg, sUnp, sUnpL, z_unpL, sSix3, sSix2, sSix1, sExp, sRet, sRai, sIte, sFor, y_var, y_cst, y_glb, y_bin, y_neg, y_not, y_cmp, y_chn, y_and, y_or, y_ife, y_tup, y_lst, y_idx, y_slc, y_rvs, y_rev, y_lc, y_lcf, y_len, y_bi, y_isi, y_mt, y_app, y_ext, y_pop, y_pat, y_ln, y_lc1, y_lset, kLs, y_lix, kLx1, kLx2, y_upp, kUp, y_edt, y_srk, kSk, srkV, y_sset, kSs, y_ch3, y_Bch3, kT1, kT2, kT3, kT4, y_idh, kIdh, y_lol, kLol, y_zip, kZ1, kZ2_ok, y_mk, kMk, y_lrg, y_lrg2, kLr, kLr1, kLr2, z_gh, z_swp, sSw1, sSw3, sSw4, sSw5, sSw6, y_pn, y_pc, y_rng, y_itv, y_an, y_on, z_nil, z_cons, z_asg, z_unp, z_six, z_exp, z_ret, z_retN, z_ite, z_for, z_whl, z_rai, z_tryB, c8_rt, c8_nx, cM_rt, cM_nx, z_pass, z_brk, z_cont, hx]
    rw [h2]
    simp [szl, Fn.start, bindT, E.isNil, y_Band, y_Bor, y_Bnot, y_Bcmp, y_Bchn, y_Bcall, y_Bisi, y_Bbi, y_Bvar, y_Bmt, y_Blen, y_Bbin, y_Bidx, y_Bcst, y_Blc, y_Blcf, kB2, kB1, kN, kNot, kC2, kC1, kH4, kH3, kH2, kH1, kI2, kI1, TL.kTup, kLst, kX2, kX1, kV3, kV2, kV1, kS3, kS2, kS1, kR, kFr, qE, qB, kL, kLf, kLen, kBi, kIs, kM1, kApp2, kApp1, kExt2, kExt1, kPop, kPat1, kE2, kE1, kP, kRg, kIv, kA2, kO2, kA1, kO1, kTr, sAsg, sUnp, sUnpL, z_unpL, sSix3, sSix2, sSix1, sExp, sRet, sRai, sIte, sFor, y_var, y_cst, y_glb, y_bin, y_neg, y_not, y_cmp, y_chn, y_and, y_or, y_ife, y_tup, y_lst, y_idx, y_slc, y_rvs, y_rev, y_lc, y_lcf, y_len, y_bi, y_isi, y_mt, y_app, y_ext, y_pop, y_pat, y_ln, y_lc1, y_lset, kLs, y_lix, kLx1, kLx2, y_upp, kUp, y_edt, y_srk, kSk, srkV, y_sset, kSs, y_ch3, y_Bch3, kT1, kT2, kT3, kT4, y_idh, kIdh, y_lol, kLol, y_zip, kZ1, kZ2_ok, y_mk, kMk, y_lrg, y_lrg2, kLr, kLr1, kLr2, z_gh, z_swp, sSw1, sSw3, sSw4, sSw5, sSw6, y_pn, y_pc, y_rng, y_itv, y_an, y_on, z_nil, z_cons, z_asg, z_unp, z_six, z_exp, z_ret, z_retN, z_ite, z_for, z_whl, z_rai, z_tryB, c8_rt, c8_nx, cM_rt, cM_nx, z_pass, z_brk, z_cont]
theorem q_does_pass (n m : Nat) (ts : List (Int × Int)) (run : List Int) (μ : Mu) (hm : m ≤ 6) (ht : ts.length ≤ 100) (hs : Pl m ts) : ap (n + 2) "does_pass" [.dt (webD m ts), .dt (.tuple (run.map .int))] μ = .ok (.dt (.bool (passB m (toP (ts.zip run))))) μ := by
  have e1 := q_leads n m ts run μ hm ht hs
  have hr := rg_1 (m : Int) (by omega)
  simp only [Int.toNat_natCast] at hr
  unfold rangeL at hr
  rw [ap_succ d_does_pass, runFn_ok rfl]
  rcases for_all (μ := μ) (i := 3) (body := TL.exec (R (n + 1)) γ 1000 f_does_pass_b1) (fun k : Nat => PyData.int (0 + (k : Int))) (fun a : Nat => (toP (ts.zip run) a).all fun b => (toP (ts.zip run) b).all fun c => decide (c ∈ toP (ts.zip run) a))
    (fun ρ => ∃ y3 y4 y5, ρ = [some (.dt (webD m ts)), some (.dt (.tuple (run.map .int))), some (.dt (.list (toL m (ts.zip run)))), y3, y4, y5]) (List.range m) _ ⟨none, none, none, rfl⟩ (by
    rintro p hp ρ ⟨y3, y4, y5, rfl⟩
    rw [List.mem_range] at hp
    rcases l_dp2 (n + 1) m ts run μ hm ht hs p hp (some (.dt (webD m ts))) (some (.dt (.tuple (run.map .int)))) y4 y5 with ⟨h1, h2⟩ | ⟨h1, z4, z5, h2⟩
    · refine ⟨fun _ => ?_, fun z => by rw [h1] at z; cases z⟩
      simpa using h2
    · refine ⟨fun z => (by rw [h1] at z; cases z), fun _ => ⟨_, (by simpa using h2), _, _, _, rfl⟩⟩) with ⟨h1, h2⟩ | ⟨h1, ρ', h2, y3, y4, y5, rfl⟩
  · have h1' : passB m (toP (ts.zip run)) = false := h1
    rw [h1']
    simp [f_does_pass, szl, Fn.start, bindT, E.isNil, y_Band, y_Bor, y_Bnot, y_Bcmp, y_Bchn, y_Bcall, y_Bisi, y_Bbi, y_Bvar, y_Bmt, y_Blen, y_Bbin, y_Bidx, y_Bcst, y_Blc, y_Blcf, kB2, kB1, kN, kNot, kC2, kC1, kH4, kH3, kH2, kH1, kI2, kI1, TL.kTup, kLst, kX2, kX1, kV3, kV2, kV1, kS3, kS2, kS1, kR, kFr, qE, qB, kL, kLf, kLen, kBi, kIs, kM1, kApp2, kApp1, kExt2, kExt1, kPop, kPat1, kE2, kE1, kP, kRg, kIv, kA2, kO2, kA1, kO1, kTr, sAsg, sUnp, sUnpL, z_unpL, sSix3, sSix2, sSix1, sExp, sRet, sRai, sIte, sFor, y_var, y_cst, y_glb, y_bin, y_neg, y_not, y_cmp, y_chn, y_and, y_or, y_ife, y_tup, y_lst, y_idx, y_slc, y_rvs, y_rev, y_lc, y_lcf, y_len, y_bi, y_isi, y_mt, y_app, y_ext, y_pop, y_pat, y_ln, y_lc1, y_lset, kLs, y_lix, kLx1, kLx2, y_upp, kUp, y_edt, y_srk, kSk, srkV, y_sset, kSs, y_ch3, y_Bch3, kT1, kT2, kT3, kT4, y_idh, kIdh, y_lol, kLol, y_zip, kZ1, kZ2_ok, y_mk, kMk, y_lrg, y_lrg2, kLr, kLr1, kLr2, z_gh, z_swp, sSw1, sSw3, sSw4, sSw5, sSw6, y_pn, y_pc, y_rng, y_itv, y_an, y_on, z_nil, z_cons, z_asg, z_unp, z_six, z_exp, z_ret, z_retN, z_ite, z_for, z_whl, z_rai, z_tryB, c8_rt, c8_nx, cM_rt, cM_nx, z_pass, z_brk, z_cont, ev_call d_leads, e1, hr]
    simp only [Int.zero_add] at h2
    rw [h2]
    simp
  · have h1' : passB m (toP (ts.zip run)) = true := h1
    rw [h1']
    simp [f_does_pass, szl, Fn.start, bindT, E.isNil, y_Band, y_Bor, y_Bnot, y_Bcmp, y_Bchn, y_Bcall, y_Bisi, y_Bbi, y_Bvar, y_Bmt, y_Blen, y_Bbin, y_Bidx, y_Bcst, y_Blc, y_Blcf, kB2, kB1, kN, kNot, kC2, kC1, kH4, kH3, kH2, kH1, kI2, kI1, TL.kTup, kLst, kX2, kX1, kV3, kV2, kV1, kS3, kS2, kS1, kR, kFr, qE, qB, kL, kLf, kLen, kBi, kIs, kM1, kApp2, kApp1, kExt2, kExt1, kPop, kPat1, kE2, kE1, kP, kRg, kIv, kA2, kO2, kA1, kO1, kTr, sAsg, sUnp, sUnpL, z_unpL, sSix3, sSix2, sSix1, sExp, sRet, sRai, sIte, sFor, y_var, y_cst, y_glb, y_bin, y_neg, y_not, y_cmp, y_chn, y_and, y_or, y_ife, y_tup, y_lst, y_idx, y_slc, y_rvs, y_rev, y_lc, y_lcf, y_len, y_bi, y_isi, y_mt, y_app, y_ext, y_pop, y_pat, y_ln, y_lc1, y_lset, kLs, y_lix, kLx1, kLx2, y_upp, kUp, y_edt, y_srk, kSk, srkV, y_sset, kSs, y_ch3, y_Bch3, kT1, kT2, kT3, kT4, y_idh, kIdh, y_lol, kLol, y_zip, kZ1, kZ2_ok, y_mk, kMk, y_lrg, y_lrg2, kLr, kLr1, kLr2, z_gh, z_swp, sSw1, sSw3, sSw4, sSw5, sSw6, y_pn, y_pc, y_rng, y_itv, y_an, y_on, z_nil, z_cons, z_asg, z_unp, z_six, z_exp, z_ret, z_retN, z_ite, z_for, z_whl, z_rai, z_tryB, c8_rt, c8_nx, cM_rt, cM_nx, z_pass, z_brk, z_cont, ev_call d_leads, e1, hr]
    simp only [Int.zero_add] at h2
    rw [h2]
    simp [szl, Fn.start, bindT, E.isNil, y_Band, y_Bor, y_Bnot, y_Bcmp, y_Bchn, y_Bcall, y_Bisi, y_Bbi, y_Bvar, y_Bmt, y_Blen, y_Bbin, y_Bidx, y_Bcst, y_Blc, y_Blcf, kB2, kB1, kN, kNot, kC2, kC1, kH4, kH3, kH2, kH1, kI2, kI1, TL.kTup, kLst, kX2, kX1, kV3, kV2, kV1, kS3, kS2, kS1, kR, kFr, qE, qB, kL, kLf, kLen, kBi, kIs, kM1, kApp2, kApp1, kExt2, kExt1, kPop, kPat1, kE2, kE1, kP, kRg, kIv, kA2, kO2, kA1, kO1, kTr, sAsg, sUnp, sUnpL, z_unpL, sSix3, sSix2, sSix1, sExp, sRet, sRai, sIte, sFor, y_var, y_cst, y_glb, y_bin, y_neg, y_not, y_cmp, y_chn, y_and, y_or, y_ife, y_tup, y_lst, y_idx, y_slc, y_rvs, y_rev, y_lc, y_lcf, y_len, y_bi, y_isi, y_mt, y_app, y_ext, y_pop, y_pat, y_ln, y_lc1, y_lset, kLs, y_lix, kLx1, kLx2, y_upp, kUp, y_edt, y_srk, kSk, srkV, y_sset, kSs, y_ch3, y_Bch3, kT1, kT2, kT3, kT4, y_idh, kIdh, y_lol, kLol, y_zip, kZ1, kZ2_ok, y_mk, kMk, y_lrg, y_lrg2, kLr, kLr1, kLr2, z_gh, z_swp, sSw1, sSw3, sSw4, sSw5, sSw6, y_pn, y_pc, y_rng, y_itv, y_an, y_on, z_nil, z_cons, z_asg, z_unp, z_six, z_exp, z_ret, z_retN, z_ite, z_for, z_whl, z_rai, z_tryB, c8_rt, c8_nx, cM_rt, cM_nx, z_pass, z_brk, z_cont]
-- needs: passes_on does_pass need_run
theorem q_passes_on (n m : Nat) (ts : List (Int × Int)) (run : List Int) (μ : Mu) (hm : m ≤ 6) (ht : ts.length ≤ 100) (hs : Pl m ts) (hl : run.length = ts.length) (h : ∀ x ∈ run, x = 1 ∨ x = -1) (hw : webB m ts = true) :
    ap (n + 7) "passes_on" [.dt (webD m ts), .dt (.tuple (run.map .int))] μ = .ok (.dt (.bool (passB m (toP (ts.zip run))))) μ := by
  have e1 := q_need_run n m ts run μ (by omega) hl h hw
  have e2 := q_does_pass (n + 4) m ts run μ hm ht hs
  rw [ap_succ d_passes_on, runFn_ok rfl]
  simp [f_passes_on, szl, Fn.start, bindT, E.isNil, y_Band, y_Bor, y_Bnot, y_Bcmp, y_Bchn, y_Bcall, y_Bisi, y_Bbi, y_Bvar, y_Bmt, y_Blen, y_Bbin, y_Bidx, y_Bcst, y_Blc, y_Blcf, kB2, kB1, kN, kNot, kC2, kC1, kH4, kH3, kH2, kH1, kI2, kI1, TL.kTup, kLst, kX2, kX1, kV3, kV2, kV1, kS3, kS2, kS1, kR, kFr, qE, qB, kL, kLf, kLen, kBi, kIs, kM1, kApp2, kApp1, kExt2, kExt1, kPop, kPat1, kE2, kE1, kP, kRg, kIv, kA2, kO2, kA1, kO1, kTr, sAsg, sUnp, sUnpL, z_unpL, sSix3, sSix2, sSix1, sExp, sRet, sRai, sIte, sFor, y_var, y_cst, y_glb, y_bin, y_neg, y_not, y_cmp, y_chn, y_and, y_or, y_ife, y_tup, y_lst, y_idx, y_slc, y_rvs, y_rev, y_lc, y_lcf, y_len, y_bi, y_isi, y_mt, y_app, y_ext, y_pop, y_pat, y_ln, y_lc1, y_lset, kLs, y_lix, kLx1, kLx2, y_upp, kUp, y_edt, y_srk, kSk, srkV, y_sset, kSs, y_ch3, y_Bch3, kT1, kT2, kT3, kT4, y_idh, kIdh, y_lol, kLol, y_zip, kZ1, kZ2_ok, y_mk, kMk, y_lrg, y_lrg2, kLr, kLr1, kLr2, z_gh, z_swp, sSw1, sSw3, sSw4, sSw5, sSw6, y_pn, y_pc, y_rng, y_itv, y_an, y_on, z_nil, z_cons, z_asg, z_unp, z_six, z_exp, z_ret, z_retN, z_ite, z_for, z_whl, z_rai, z_tryB, c8_rt, c8_nx, cM_rt, cM_nx, z_pass, z_brk, z_cont, ev_call d_need_run, ev_call d_does_pass, e1, e2]
-- needs: first_passing does_pass all_runs need_web
def oR : Option (List Int) → D
  | some r => rwT r
  | none => .none
/-- the first run that passes on -/
def passF (m : Nat) (ts : List (Int × Int)) : Option (List Int) := (allR ts.length).find? fun r => passB m (toP (ts.zip r))
theorem q_first_passing (n m : Nat) (ts : List (Int × Int)) (μ : Mu) (hm : m ≤ 6) (ht : ts.length ≤ 15) (hs : Pl m ts) (hw : webB m ts = true) :
    ap (n + 6) "first_passing" [.dt (webD m ts)] μ = .ok (.dt (oR (passF m ts))) μ := by
  have e1 := q_need_web n m ts μ (by omega) hw
  have e2 := q_all_runs (n + 4) (.int m) ts μ ht
  rw [ap_succ d_first_passing, runFn_ok rfl]
  rcases for_find (μ := μ) (i := 1) (body := TL.exec (R (n + 5)) γ 1000 f_first_passing_b1) rwT (fun r => passB m (toP (ts.zip r))) (fun r => .dt (rwT r)) (fun ρ => ∃ y, ρ = [some (.dt (webD m ts)), y]) (allR ts.length) _ ⟨none, rfl⟩ (by
    rintro r hr ρ ⟨y, rfl⟩
    have e3 : ap (n + 5) "does_pass" [.dt (webD m ts), .dt (rwT r)] μ = .ok (.dt (.bool (passB m (toP (ts.zip r))))) μ := q_does_pass (n + 3) m ts r μ hm (by omega) hs
    generalize rwT r = RR at *
    constructor
    · intro h
      rw [h] at e3
      simp [szl, Fn.start, bindT, E.isNil, y_Band, y_Bor, y_Bnot, y_Bcmp, y_Bchn, y_Bcall, y_Bisi, y_Bbi, y_Bvar, y_Bmt, y_Blen, y_Bbin, y_Bidx, y_Bcst, y_Blc, y_Blcf, kB2, kB1, kN, kNot, kC2, kC1, kH4, kH3, kH2, kH1, kI2, kI1, TL.kTup, kLst, kX2, kX1, kV3, kV2, kV1, kS3, kS2, kS1, kR, kFr, qE, qB, kL, kLf, kLen, kBi, kIs, kM1, kApp2, kApp1, kExt2, kExt1, kPop, kPat1, kE2, kE1, kP, kRg, kIv, kA2, kO2, kA1, kO1, kTr, sAsg, sUnp, sUnpL, z_unpL, sSix3, sSix2, sSix1, sExp, sRet, sRai, sIte, sFor, y_var, y_cst, y_glb, y_bin, y_neg, y_not, y_cmp, y_chn, y_and, y_or, y_ife, y_tup, y_lst, y_idx, y_slc, y_rvs, y_rev, y_lc, y_lcf, y_len, y_bi, y_isi, y_mt, y_app, y_ext, y_pop, y_pat, y_ln, y_lc1, y_lset, kLs, y_lix, kLx1, kLx2, y_upp, kUp, y_edt, y_srk, kSk, srkV, y_sset, kSs, y_ch3, y_Bch3, kT1, kT2, kT3, kT4, y_idh, kIdh, y_lol, kLol, y_zip, kZ1, kZ2_ok, y_mk, kMk, y_lrg, y_lrg2, kLr, kLr1, kLr2, z_gh, z_swp, sSw1, sSw3, sSw4, sSw5, sSw6, y_pn, y_pc, y_rng, y_itv, y_an, y_on, z_nil, z_cons, z_asg, z_unp, z_six, z_exp, z_ret, z_retN, z_ite, z_for, z_whl, z_rai, z_tryB, c8_rt, c8_nx, cM_rt, cM_nx, z_pass, z_brk, z_cont, ev_call d_does_pass, e3]
    · intro h
      rw [h] at e3
      exact ⟨[some (.dt (webD m ts)), some (.dt RR)], by simp [szl, Fn.start, bindT, E.isNil, y_Band, y_Bor, y_Bnot, y_Bcmp, y_Bchn, y_Bcall, y_Bisi, y_Bbi, y_Bvar, y_Bmt, y_Blen, y_Bbin, y_Bidx, y_Bcst, y_Blc, y_Blcf, kB2, kB1, kN, kNot, kC2, kC1, kH4, kH3, kH2, kH1, kI2, kI1, TL.kTup, kLst, kX2, kX1, kV3, kV2, kV1, kS3, kS2, kS1, kR, kFr, qE, qB, kL, kLf, kLen, kBi, kIs, kM1, kApp2, kApp1, kExt2, kExt1, kPop, kPat1, kE2, kE1, kP, kRg, kIv, kA2, kO2, kA1, kO1, kTr, sAsg, sUnp, sUnpL, z_unpL, sSix3, sSix2, sSix1, sExp, sRet, sRai, sIte, sFor, y_var, y_cst, y_glb, y_bin, y_neg, y_not, y_cmp, y_chn, y_and, y_or, y_ife, y_tup, y_lst, y_idx, y_slc, y_rvs, y_rev, y_lc, y_lcf, y_len, y_bi, y_isi, y_mt, y_app, y_ext, y_pop, y_pat, y_ln, y_lc1, y_lset, kLs, y_lix, kLx1, kLx2, y_upp, kUp, y_edt, y_srk, kSk, srkV, y_sset, kSs, y_ch3, y_Bch3, kT1, kT2, kT3, kT4, y_idh, kIdh, y_lol, kLol, y_zip, kZ1, kZ2_ok, y_mk, kMk, y_lrg, y_lrg2, kLr, kLr1, kLr2, z_gh, z_swp, sSw1, sSw3, sSw4, sSw5, sSw6, y_pn, y_pc, y_rng, y_itv, y_an, y_on, z_nil, z_cons, z_asg, z_unp, z_six, z_exp, z_ret, z_retN, z_ite, z_for, z_whl, z_rai, z_tryB, c8_rt, c8_nx, cM_rt, cM_nx, z_pass, z_brk, z_cont, ev_call d_does_pass, e3], _, rfl⟩) with ⟨a, h1, h2⟩ | ⟨h1, ρ', h2, y, rfl⟩
  · have h1' : passF m ts = some a := h1
    rw [h1']
    simp [f_first_passing, szl, Fn.start, bindT, E.isNil, y_Band, y_Bor, y_Bnot, y_Bcmp, y_Bchn, y_Bcall, y_Bisi, y_Bbi, y_Bvar, y_Bmt, y_Blen, y_Bbin, y_Bidx, y_Bcst, y_Blc, y_Blcf, kB2, kB1, kN, kNot, kC2, kC1, kH4, kH3, kH2, kH1, kI2, kI1, TL.kTup, kLst, kX2, kX1, kV3, kV2, kV1, kS3, kS2, kS1, kR, kFr, qE, qB, kL, kLf, kLen, kBi, kIs, kM1, kApp2, kApp1, kExt2, kExt1, kPop, kPat1, kE2, kE1, kP, kRg, kIv, kA2, kO2, kA1, kO1, kTr, sAsg, sUnp, sUnpL, z_unpL, sSix3, sSix2, sSix1, sExp, sRet, sRai, sIte, sFor, y_var, y_cst, y_glb, y_bin, y_neg, y_not, y_cmp, y_chn, y_and, y_or, y_ife, y_tup, y_lst, y_idx, y_slc, y_rvs, y_rev, y_lc, y_lcf, y_len, y_bi, y_isi, y_mt, y_app, y_ext, y_pop, y_pat, y_ln, y_lc1, y_lset, kLs, y_lix, kLx1, kLx2, y_upp, kUp, y_edt, y_srk, kSk, srkV, y_sset, kSs, y_ch3, y_Bch3, kT1, kT2, kT3, kT4, y_idh, kIdh, y_lol, kLol, y_zip, kZ1, kZ2_ok, y_mk, kMk, y_lrg, y_lrg2, kLr, kLr1, kLr2, z_gh, z_swp, sSw1, sSw3, sSw4, sSw5, sSw6, y_pn, y_pc, y_rng, y_itv, y_an, y_on, z_nil, z_cons, z_asg, z_unp, z_six, z_exp, z_ret, z_retN, z_ite, z_for, z_whl, z_rai, z_tryB, c8_rt, c8_nx, cM_rt, cM_nx, z_pass, z_brk, z_cont, ev_call d_need_web, ev_call d_all_runs, e1, e2]
    rw [h2]
    simp [oR]
  · have h1' : passF m ts = none := h1
    rw [h1']
    simp [f_first_passing, szl, Fn.start, bindT, E.isNil, y_Band, y_Bor, y_Bnot, y_Bcmp, y_Bchn, y_Bcall, y_Bisi, y_Bbi, y_Bvar, y_Bmt, y_Blen, y_Bbin, y_Bidx, y_Bcst, y_Blc, y_Blcf, kB2, kB1, kN, kNot, kC2, kC1, kH4, kH3, kH2, kH1, kI2, kI1, TL.kTup, kLst, kX2, kX1, kV3, kV2, kV1, kS3, kS2, kS1, kR, kFr, qE, qB, kL, kLf, kLen, kBi, kIs, kM1, kApp2, kApp1, kExt2, kExt1, kPop, kPat1, kE2, kE1, kP, kRg, kIv, kA2, kO2, kA1, kO1, kTr, sAsg, sUnp, sUnpL, z_unpL, sSix3, sSix2, sSix1, sExp, sRet, sRai, sIte, sFor, y_var, y_cst, y_glb, y_bin, y_neg, y_not, y_cmp, y_chn, y_and, y_or, y_ife, y_tup, y_lst, y_idx, y_slc, y_rvs, y_rev, y_lc, y_lcf, y_len, y_bi, y_isi, y_mt, y_app, y_ext, y_pop, y_pat, y_ln, y_lc1, y_lset, kLs, y_lix, kLx1, kLx2, y_upp, kUp, y_edt, y_srk, kSk, srkV, y_sset, kSs, y_ch3, y_Bch3, kT1, kT2, kT3, kT4, y_idh, kIdh, y_lol, kLol, y_zip, kZ1, kZ2_ok, y_mk, kMk, y_lrg, y_lrg2, kLr, kLr1, kLr2, z_gh, z_swp, sSw1, sSw3, sSw4, sSw5, sSw6, y_pn, y_pc, y_rng, y_itv, y_an, y_on, z_nil, z_cons, z_asg, z_unp, z_six, z_exp, z_ret, z_retN, z_ite, z_for, z_whl, z_rai, z_tryB, c8_rt, c8_nx, cM_rt, cM_nx, z_pass, z_brk, z_cont, ev_call d_need_web, ev_call d_all_runs, e1, e2]
    rw [h2]
    simp [szl, Fn.start, bindT, E.isNil, y_Band, y_Bor, y_Bnot, y_Bcmp, y_Bchn, y_Bcall, y_Bisi, y_Bbi, y_Bvar, y_Bmt, y_Blen, y_Bbin, y_Bidx, y_Bcst, y_Blc, y_Blcf, kB2, kB1, kN, kNot, kC2, kC1, kH4, kH3, kH2, kH1, kI2, kI1, TL.kTup, kLst, kX2, kX1, kV3, kV2, kV1, kS3, kS2, kS1, kR, kFr, qE, qB, kL, kLf, kLen, kBi, kIs, kM1, kApp2, kApp1, kExt2, kExt1, kPop, kPat1, kE2, kE1, kP, kRg, kIv, kA2, kO2, kA1, kO1, kTr, sAsg, sUnp, sUnpL, z_unpL, sSix3, sSix2, sSix1, sExp, sRet, sRai, sIte, sFor, y_var, y_cst, y_glb, y_bin, y_neg, y_not, y_cmp, y_chn, y_and, y_or, y_ife, y_tup, y_lst, y_idx, y_slc, y_rvs, y_rev, y_lc, y_lcf, y_len, y_bi, y_isi, y_mt, y_app, y_ext, y_pop, y_pat, y_ln, y_lc1, y_lset, kLs, y_lix, kLx1, kLx2, y_upp, kUp, y_edt, y_srk, kSk, srkV, y_sset, kSs, y_ch3, y_Bch3, kT1, kT2, kT3, kT4, y_idh, kIdh, y_lol, kLol, y_zip, kZ1, kZ2_ok, y_mk, kMk, y_lrg, y_lrg2, kLr, kLr1, kLr2, z_gh, z_swp, sSw1, sSw3, sSw4, sSw5, sSw6, y_pn, y_pc, y_rng, y_itv, y_an, y_on, z_nil, z_cons, z_asg, z_unp, z_six, z_exp, z_ret, z_retN, z_ite, z_for, z_whl, z_rai, z_tryB, c8_rt, c8_nx, cM_rt, cM_nx, z_pass, z_brk, z_cont, oR]
-- needs: _law_runs
theorem bnR2 (r : List Int) (i : Int) (h : r.length ≤ 1000) : binF .Add (rwT r) (.tuple [.int i]) = some (.dt (rwT (r ++ [i]))) := by
  unfold rwT
  rw [bn_addt _ _ (szle (by simp; omega))]
  simp
theorem q_l_runs (n : Nat) (m : D) (ts : List (Int × Int)) (μ : Mu) (ht : ts.length ≤ 15) : ap (n + 1) "_law_runs" [.dt (.tuple [m, .tuple (ts.map tieD)])] μ = .ok (.fr ((allR ts.length).map rwT)) μ := by
  obtain ⟨ρ', μ', h1, y, z, h2, h3⟩ := for_pre (ρ := [some (.dt (.tuple [m, .tuple (ts.map tieD)])), some (.dt (.list ((rawR 0).map rwT))), none, none]) (μ := μ) (i := 2) (body := TL.exec (R n) γ 1000 f_l_runs_b1) tieD
    (fun pre ρ μ' => ∃ y z, ρ = [some (.dt (.tuple [m, .tuple (ts.map tieD)])), some (.dt (.list ((rawR pre.length).map rwT))), y, z] ∧ μ' = μ) ts ⟨_, _, rfl, rfl⟩ (by
    rintro pre a post e ρ μ1 ⟨y, z, rfl, rfl⟩
    have pl : pre.length ≤ 14 := by
      have := congrArg List.length e
      simp at this
      omega
    rw [List.length_append, List.length_singleton]
    generalize pre.length = k at *
    have hk : (rawR k).length ≤ 16384 := by
      rw [rawR_len]
      exact Nat.le_trans (Nat.pow_le_pow_right (by omega) pl) (by decide)
    have hz : ¬ sizeLine < (rawR k).length := szn (by omega)
    have rl : ∀ r ∈ rawR k, r.length ≤ 1000 := fun r hr => by rw [(rawR_mem.mp hr).1]; omega
    have c1 : ∀ ρ : Ro, ∀ y1 y2 y3, ρ = [y1, y2, y3, z] → lcL [3] none (qE (R n) γ f_l_runs_e1) ρ ((rawR k).map rwT) μ1 = .ok (((rawR k).map (· ++ [-1])).map rwT) μ1 := by
      rintro ρ y1 y2 y3 rfl
      rw [List.map_map]
      refine lcm rwT _ _ fun r hr => ?_
      have := bnR2 r (-1) (rl r hr)
      simp [szl, Fn.start, bindT, E.isNil, y_Band, y_Bor, y_Bnot, y_Bcmp, y_Bchn, y_Bcall, y_Bisi, y_Bbi, y_Bvar, y_Bmt, y_Blen, y_Bbin, y_Bidx, y_Bcst, y_Blc, y_Blcf, kB2, kB1, kN, kNot, kC2, kC1, kH4, kH3, kH2, kH1, kI2, kI1, TL.kTup, kLst, kX2, kX1, kV3, kV2, kV1, kS3, kS2, kS1, kR, kFr, qE, qB, kL, kLf, kLen, kBi, kIs, kM1, kApp2, kApp1, kExt2, kExt1, kPop, kPat1, kE2, kE1, kP, kRg, kIv, kA2, kO2, kA1, kO1, kTr, sAsg, sUnp, sUnpL, z_unpL, sSix3, sSix2, sSix1, sExp, sRet, sRai, sIte, sFor, y_var, y_cst, y_glb, y_bin, y_neg, y_not, y_cmp, y_chn, y_and, y_or, y_ife, y_tup, y_lst, y_idx, y_slc, y_rvs, y_rev, y_lc, y_lcf, y_len, y_bi, y_isi, y_mt, y_app, y_ext, y_pop, y_pat, y_ln, y_lc1, y_lset, kLs, y_lix, kLx1, kLx2, y_upp, kUp, y_edt, y_srk, kSk, srkV, y_sset, kSs, y_ch3, y_Bch3, kT1, kT2, kT3, kT4, y_idh, kIdh, y_lol, kLol, y_zip, kZ1, kZ2_ok, y_mk, kMk, y_lrg, y_lrg2, kLr, kLr1, kLr2, z_gh, z_swp, sSw1, sSw3, sSw4, sSw5, sSw6, y_pn, y_pc, y_rng, y_itv, y_an, y_on, z_nil, z_cons, z_asg, z_unp, z_six, z_exp, z_ret, z_retN, z_ite, z_for, z_whl, z_rai, z_tryB, c8_rt, c8_nx, cM_rt, cM_nx, z_pass, z_brk, z_cont, this]
    have c2 : ∀ ρ : Ro, ∀ y1 y2 y3, ρ = [y1, y2, y3, z] → lcL [3] none (qE (R n) γ f_l_runs_e2) ρ ((rawR k).map rwT) μ1 = .ok (((rawR k).map (· ++ [1])).map rwT) μ1 := by
      rintro ρ y1 y2 y3 rfl
      rw [List.map_map]
      refine lcm rwT _ _ fun r hr => ?_
      have := bnR2 r 1 (rl r hr)
      simp [szl, Fn.start, bindT, E.isNil, y_Band, y_Bor, y_Bnot, y_Bcmp, y_Bchn, y_Bcall, y_Bisi, y_Bbi, y_Bvar, y_Bmt, y_Blen, y_Bbin, y_Bidx, y_Bcst, y_Blc, y_Blcf, kB2, kB1, kN, kNot, kC2, kC1, kH4, kH3, kH2, kH1, kI2, kI1, TL.kTup, kLst, kX2, kX1, kV3, kV2, kV1, kS3, kS2, kS1, kR, kFr, qE, qB, kL, kLf, kLen, kBi, kIs, kM1, kApp2, kApp1, kExt2, kExt1, kPop, kPat1, kE2, kE1, kP, kRg, kIv, kA2, kO2, kA1, kO1, kTr, sAsg, sUnp, sUnpL, z_unpL, sSix3, sSix2, sSix1, sExp, sRet, sRai, sIte, sFor, y_var, y_cst, y_glb, y_bin, y_neg, y_not, y_cmp, y_chn, y_and, y_or, y_ife, y_tup, y_lst, y_idx, y_slc, y_rvs, y_rev, y_lc, y_lcf, y_len, y_bi, y_isi, y_mt, y_app, y_ext, y_pop, y_pat, y_ln, y_lc1, y_lset, kLs, y_lix, kLx1, kLx2, y_upp, kUp, y_edt, y_srk, kSk, srkV, y_sset, kSs, y_ch3, y_Bch3, kT1, kT2, kT3, kT4, y_idh, kIdh, y_lol, kLol, y_zip, kZ1, kZ2_ok, y_mk, kMk, y_lrg, y_lrg2, kLr, kLr1, kLr2, z_gh, z_swp, sSw1, sSw3, sSw4, sSw5, sSw6, y_pn, y_pc, y_rng, y_itv, y_an, y_on, z_nil, z_cons, z_asg, z_unp, z_six, z_exp, z_ret, z_retN, z_ite, z_for, z_whl, z_rai, z_tryB, c8_rt, c8_nx, cM_rt, cM_nx, z_pass, z_brk, z_cont, this]
    have ad := bn_addl (((rawR k).map (· ++ [-1])).map rwT) (((rawR k).map (· ++ [1])).map rwT) (szle (by simp only [List.length_map]; omega))
    refine ⟨[some (.dt (.tuple [m, .tuple (ts.map tieD)])), some (.dt (.list ((rawR (k + 1)).map rwT))), some (.dt (tieD a)), z], μ1, ?_, _, _, rfl, rfl⟩
    have e3 : (rawR (k + 1)).map rwT = ((rawR k).map (· ++ [-1])).map rwT ++ ((rawR k).map (· ++ [1])).map rwT := by
      show List.map rwT (_ ++ _) = _
      rw [List.map_append]
    rw [e3]
    have hz' : ¬ sizeLine < ((rawR k).map rwT).length := by rw [List.length_map]; exact hz
    generalize (rawR k).map rwT = L0 at *
    generalize ((rawR k).map (· ++ [-1])).map rwT = L1 at *
    generalize ((rawR k).map (· ++ [1])).map rwT = L2 at *
    simp [szl, Fn.start, bindT, E.isNil, y_Band, y_Bor, y_Bnot, y_Bcmp, y_Bchn, y_Bcall, y_Bisi, y_Bbi, y_Bvar, y_Bmt, y_Blen, y_Bbin, y_Bidx, y_Bcst, y_Blc, y_Blcf, kB2, kB1, kN, kNot, kC2, kC1, kH4, kH3, kH2, kH1, kI2, kI1, TL.kTup, kLst, kX2, kX1, kV3, kV2, kV1, kS3, kS2, kS1, kR, kFr, qE, qB, kL, kLf, kLen, kBi, kIs, kM1, kApp2, kApp1, kExt2, kExt1, kPop, kPat1, kE2, kE1, kP, kRg, kIv, kA2, kO2, kA1, kO1, kTr, sAsg, sUnp, sUnpL, z_unpL, sSix3, sSix2, sSix1, sExp, sRet, sRai, sIte, sFor, y_var, y_cst, y_glb, y_bin, y_neg, y_not, y_cmp, y_chn, y_and, y_or, y_ife, y_tup, y_lst, y_idx, y_slc, y_rvs, y_rev, y_lc, y_lcf, y_len, y_bi, y_isi, y_mt, y_app, y_ext, y_pop, y_pat, y_ln, y_lc1, y_lset, kLs, y_lix, kLx1, kLx2, y_upp, kUp, y_edt, y_srk, kSk, srkV, y_sset, kSs, y_ch3, y_Bch3, kT1, kT2, kT3, kT4, y_idh, kIdh, y_lol, kLol, y_zip, kZ1, kZ2_ok, y_mk, kMk, y_lrg, y_lrg2, kLr, kLr1, kLr2, z_gh, z_swp, sSw1, sSw3, sSw4, sSw5, sSw6, y_pn, y_pc, y_rng, y_itv, y_an, y_on, z_nil, z_cons, z_asg, z_unp, z_six, z_exp, z_ret, z_retN, z_ite, z_for, z_whl, z_rai, z_tryB, c8_rt, c8_nx, cM_rt, cM_nx, z_pass, z_brk, z_cont, c1 _ _ _ _ rfl, c2 _ _ _ _ rfl, ad, hz'])
  subst h2 h3
  have sr := bi_srtR ts.length
  rw [ap_succ d_l_runs, runFn_ok rfl]
  have e0 : (PyData.list [.tuple []]) = .list ((rawR 0).map rwT) := rfl
  simp [f_l_runs, szl, Fn.start, bindT, E.isNil, y_Band, y_Bor, y_Bnot, y_Bcmp, y_Bchn, y_Bcall, y_Bisi, y_Bbi, y_Bvar, y_Bmt, y_Blen, y_Bbin, y_Bidx, y_Bcst, y_Blc, y_Blcf, kB2, kB1, kN, kNot, kC2, kC1, kH4, kH3, kH2, kH1, kI2, kI1, TL.kTup, kLst, kX2, kX1, kV3, kV2, kV1, kS3, kS2, kS1, kR, kFr, qE, qB, kL, kLf, kLen, kBi, kIs, kM1, kApp2, kApp1, kExt2, kExt1, kPop, kPat1, kE2, kE1, kP, kRg, kIv, kA2, kO2, kA1, kO1, kTr, sAsg, sUnp, sUnpL, z_unpL, sSix3, sSix2, sSix1, sExp, sRet, sRai, sIte, sFor, y_var, y_cst, y_glb, y_bin, y_neg, y_not, y_cmp, y_chn, y_and, y_or, y_ife, y_tup, y_lst, y_idx, y_slc, y_rvs, y_rev, y_lc, y_lcf, y_len, y_bi, y_isi, y_mt, y_app, y_ext, y_pop, y_pat, y_ln, y_lc1, y_lset, kLs, y_lix, kLx1, kLx2, y_upp, kUp, y_edt, y_srk, kSk, srkV, y_sset, kSs, y_ch3, y_Bch3, kT1, kT2, kT3, kT4, y_idh, kIdh, y_lol, kLol, y_zip, kZ1, kZ2_ok, y_mk, kMk, y_lrg, y_lrg2, kLr, kLr1, kLr2, z_gh, z_swp, sSw1, sSw3, sSw4, sSw5, sSw6, y_pn, y_pc, y_rng, y_itv, y_an, y_on, z_nil, z_cons, z_asg, z_unp, z_six, z_exp, z_ret, z_retN, z_ite, z_for, z_whl, z_rai, z_tryB, c8_rt, c8_nx, cM_rt, cM_nx, z_pass, z_brk, z_cont]
  rw [e0, h1]
  generalize (rawR ts.length).map rwT = L0 at *
  simp [szl, Fn.start, bindT, E.isNil, y_Band, y_Bor, y_Bnot, y_Bcmp, y_Bchn, y_Bcall, y_Bisi, y_Bbi, y_Bvar, y_Bmt, y_Blen, y_Bbin, y_Bidx, y_Bcst, y_Blc, y_Blcf, kB2, kB1, kN, kNot, kC2, kC1, kH4, kH3, kH2, kH1, kI2, kI1, TL.kTup, kLst, kX2, kX1, kV3, kV2, kV1, kS3, kS2, kS1, kR, kFr, qE, qB, kL, kLf, kLen, kBi, kIs, kM1, kApp2, kApp1, kExt2, kExt1, kPop, kPat1, kE2, kE1, kP, kRg, kIv, kA2, kO2, kA1, kO1, kTr, sAsg, sUnp, sUnpL, z_unpL, sSix3, sSix2, sSix1, sExp, sRet, sRai, sIte, sFor, y_var, y_cst, y_glb, y_bin, y_neg, y_not, y_cmp, y_chn, y_and, y_or, y_ife, y_tup, y_lst, y_idx, y_slc, y_rvs, y_rev, y_lc, y_lcf, y_len, y_bi, y_isi, y_mt, y_app, y_ext, y_pop, y_pat, y_ln, y_lc1, y_lset, kLs, y_lix, kLx1, kLx2, y_upp, kUp, y_edt, y_srk, kSk, srkV, y_sset, kSs, y_ch3, y_Bch3, kT1, kT2, kT3, kT4, y_idh, kIdh, y_lol, kLol, y_zip, kZ1, kZ2_ok, y_mk, kMk, y_lrg, y_lrg2, kLr, kLr1, kLr2, z_gh, z_swp, sSw1, sSw3, sSw4, sSw5, sSw6, y_pn, y_pc, y_rng, y_itv, y_an, y_on, z_nil, z_cons, z_asg, z_unp, z_six, z_exp, z_ret, z_retN, z_ite, z_for, z_whl, z_rai, z_tryB, c8_rt, c8_nx, cM_rt, cM_nx, z_pass, z_brk, z_cont, sr]
-- needs: _law_to
theorem q_l_to (n m : Nat) (ts : List (Int × Int)) (run : List Int) (μ : Mu) (hm : m ≤ 6) (ht : ts.length ≤ 100) (hs : Pl m ts) (hr : ∀ x ∈ run, x = 1 ∨ x = -1) : ap (n + 1) "_law_to" [.dt (webD m ts), .dt (.tuple (run.map .int))] μ = .ok (.fr (toL m (ts.zip run))) μ := by
  obtain ⟨ρ', μ', h1, y4, y5, h2, h3⟩ := for_pre2 (ρ := [some (.dt (webD m ts)), some (.dt (.tuple (run.map .int))), some (.hd (μ.length + m)), none, none, none]) (μ := muL μ m fun _ => []) (i := 4) (j := 5) (body := TL.exec (R n) γ 1000 f_l_to_b1) (fun q : (Int × Int) × Int => tieD q.1) (fun q => .int q.2)
    (fun pre ρ μ' => ∃ y4 y5, ρ = [some (.dt (webD m ts)), some (.dt (.tuple (run.map .int))), some (.hd (μ.length + m)), none, y4, y5] ∧ μ' = muL μ m fun p => toP pre p) (ts.zip run) ⟨_, _, rfl, rfl⟩ (by
    rintro pre a post e ρ μ1 ⟨y4, y5, rfl, rfl⟩
    have hb := hs a.1 (List.of_mem_zip (a := a.1) (b := a.2) (pre_sub e).1).1
    have hw0 := hr a.2 (List.of_mem_zip (a := a.1) (b := a.2) (pre_sub e).1).2
    obtain ⟨⟨i, j⟩, w⟩ := a
    simp only at hb hw0
    obtain ⟨i', rfl⟩ := Int.eq_ofNat_of_zero_le hb.1.1
    obtain ⟨j', rfl⟩ := Int.eq_ofNat_of_zero_le hb.2.1
    have pl : pre.length ≤ 100 := by
      have := congrArg List.length e
      simp at this
      omega
    have tl : ∀ p, (toP pre p).length ≤ 1000 := fun p => Nat.le_trans (toP_len pre p) (by omega)
    by_cases hw : w = 1
    · subst hw
      have g1 := kIdh_muL (μ := μ) (m := m) (p := i') (f := fun p => toP pre p) (by omega)
      have g2 := isL_muL (μ := μ) (m := m) (p := i') (f := fun p => toP pre p) (by omega)
      have g3 := kApp2_muL (μ := μ) (m := m) (p := i') (f := fun p => toP pre p) (x := (j' : Int)) (by omega) (tl _)
      refine ⟨[some (.dt (webD m ts)), some (.dt (.tuple (run.map .int))), some (.hd (μ.length + m)), none, some (.dt (tieD ((i' : Int), (j' : Int)))), some (.dt (.int 1))], muL μ m (fun q => if q = i' then toP pre i' ++ [(j' : Int)] else toP pre q), ?_, _, _, rfl, ?_⟩
      · generalize muL μ m (fun p => toP pre p) = M1 at *
        generalize muL μ m (fun q => if q = i' then toP pre i' ++ [(j' : Int)] else toP pre q) = M2 at *
        have g1' : ∀ y, y = Vl.dt (.int (i' : Int)) → kIdh (μ.length + m) y M1 = .ok (.hd (μ.length + i')) M1 := by rintro y rfl; exact g1
        simp [szl, Fn.start, bindT, E.isNil, y_Band, y_Bor, y_Bnot, y_Bcmp, y_Bchn, y_Bcall, y_Bisi, y_Bbi, y_Bvar, y_Bmt, y_Blen, y_Bbin, y_Bidx, y_Bcst, y_Blc, y_Blcf, kB2, kB1, kN, kNot, kC2, kC1, kH4, kH3, kH2, kH1, kI2, kI1, TL.kTup, kLst, kX2, kX1, kV3, kV2, kV1, kS3, kS2, kS1, kR, kFr, qE, qB, kL, kLf, kLen, kBi, kIs, kM1, kApp1, kExt2, kExt1, kPop, kPat1, kE2, kE1, kP, kRg, kIv, kA2, kO2, kA1, kO1, kTr, sAsg, sUnp, sUnpL, z_unpL, sSix3, sSix2, sSix1, sExp, sRet, sRai, sIte, sFor, y_var, y_cst, y_glb, y_bin, y_neg, y_not, y_cmp, y_chn, y_and, y_or, y_ife, y_tup, y_lst, y_idx, y_slc, y_rvs, y_rev, y_lc, y_lcf, y_len, y_bi, y_isi, y_mt, y_app, y_ext, y_pop, y_pat, y_ln, y_lc1, y_lset, kLs, y_lix, kLx1, kLx2, y_upp, kUp, y_edt, y_srk, kSk, srkV, y_sset, kSs, y_ch3, y_Bch3, kT1, kT2, kT3, kT4, y_idh, y_lol, kLol, y_zip, kZ1, kZ2_ok, y_mk, kMk, y_lrg, y_lrg2, kLr, kLr1, kLr2, z_gh, z_swp, sSw1, sSw3, sSw4, sSw5, sSw6, y_pn, y_pc, y_rng, y_itv, y_an, y_on, z_nil, z_cons, z_asg, z_unp, z_six, z_exp, z_ret, z_retN, z_ite, z_for, z_whl, z_rai, z_tryB, c8_rt, c8_nx, cM_rt, cM_nx, z_pass, z_brk, z_cont, g1' _ rfl, g2, g3]
      · congr 1
        funext q
        rw [toP_snoc]
        by_cases h : q = i'
        · subst h; simp
        · have h' : ¬ (i' : Int) = (q : Int) := by omega
          simp [h, h']
    · have hw : w = -1 := hw0.resolve_left hw
      subst hw
      have g1 := kIdh_muL (μ := μ) (m := m) (p := j') (f := fun p => toP pre p) (by omega)
      have g2 := isL_muL (μ := μ) (m := m) (p := j') (f := fun p => toP pre p) (by omega)
      have g3 := kApp2_muL (μ := μ) (m := m) (p := j') (f := fun p => toP pre p) (x := (i' : Int)) (by omega) (tl _)
      refine ⟨[some (.dt (webD m ts)), some (.dt (.tuple (run.map .int))), some (.hd (μ.length + m)), none, some (.dt (tieD ((i' : Int), (j' : Int)))), some (.dt (.int (-1)))], muL μ m (fun q => if q = j' then toP pre j' ++ [(i' : Int)] else toP pre q), ?_, _, _, rfl, ?_⟩
      · generalize muL μ m (fun p => toP pre p) = M1 at *
        generalize muL μ m (fun q => if q = j' then toP pre j' ++ [(i' : Int)] else toP pre q) = M2 at *
        have g1' : ∀ y, y = Vl.dt (.int (j' : Int)) → kIdh (μ.length + m) y M1 = .ok (.hd (μ.length + j')) M1 := by rintro y rfl; exact g1
        simp [szl, Fn.start, bindT, E.isNil, y_Band, y_Bor, y_Bnot, y_Bcmp, y_Bchn, y_Bcall, y_Bisi, y_Bbi, y_Bvar, y_Bmt, y_Blen, y_Bbin, y_Bidx, y_Bcst, y_Blc, y_Blcf, kB2, kB1, kN, kNot, kC2, kC1, kH4, kH3, kH2, kH1, kI2, kI1, TL.kTup, kLst, kX2, kX1, kV3, kV2, kV1, kS3, kS2, kS1, kR, kFr, qE, qB, kL, kLf, kLen, kBi, kIs, kM1, kApp1, kExt2, kExt1, kPop, kPat1, kE2, kE1, kP, kRg, kIv, kA2, kO2, kA1, kO1, kTr, sAsg, sUnp, sUnpL, z_unpL, sSix3, sSix2, sSix1, sExp, sRet, sRai, sIte, sFor, y_var, y_cst, y_glb, y_bin, y_neg, y_not, y_cmp, y_chn, y_and, y_or, y_ife, y_tup, y_lst, y_idx, y_slc, y_rvs, y_rev, y_lc, y_lcf, y_len, y_bi, y_isi, y_mt, y_app, y_ext, y_pop, y_pat, y_ln, y_lc1, y_lset, kLs, y_lix, kLx1, kLx2, y_upp, kUp, y_edt, y_srk, kSk, srkV, y_sset, kSs, y_ch3, y_Bch3, kT1, kT2, kT3, kT4, y_idh, y_lol, kLol, y_zip, kZ1, kZ2_ok, y_mk, kMk, y_lrg, y_lrg2, kLr, kLr1, kLr2, z_gh, z_swp, sSw1, sSw3, sSw4, sSw5, sSw6, y_pn, y_pc, y_rng, y_itv, y_an, y_on, z_nil, z_cons, z_asg, z_unp, z_six, z_exp, z_ret, z_retN, z_ite, z_for, z_whl, z_rai, z_tryB, c8_rt, c8_nx, cM_rt, cM_nx, z_pass, z_brk, z_cont, g1' _ rfl, g2, g3]
      · congr 1
        funext q
        rw [toP_snoc]
        by_cases h : q = j'
        · subst h; simp
        · have h' : ¬ (j' : Int) = (q : Int) := by omega
          simp [h, h'])
  subst h2 h3
  have hr' := rg_1 (m : Int) (by omega)
  simp only [Int.toNat_natCast] at hr'
  have hz : ¬ sizeLine < m := szn (by omega)
  rw [← zipD] at h1
  have fin := fin_lol (μ := μ) (m := m) (f := fun p => toP (ts.zip run) p)
  have m0 := muL_0 (μ := μ) (m := m)
  rw [ap_succ d_l_to, runFn_ok rfl]
  simp [f_l_to, szl, Fn.start, bindT, E.isNil, y_Band, y_Bor, y_Bnot, y_Bcmp, y_Bchn, y_Bcall, y_Bisi, y_Bbi, y_Bvar, y_Bmt, y_Blen, y_Bbin, y_Bidx, y_Bcst, y_Blc, y_Blcf, kB2, kB1, kN, kNot, kC2, kC1, kH4, kH3, kH2, kH1, kI2, kI1, TL.kTup, kLst, kX2, kX1, kV3, kV2, kV1, kS3, kS2, kS1, kR, kFr, qE, qB, kL, kLf, kLen, kBi, kIs, kM1, kApp2, kApp1, kExt2, kExt1, kPop, kPat1, kE2, kE1, kP, kRg, kIv, kA2, kO2, kA1, kO1, kTr, sAsg, sUnp, sUnpL, z_unpL, sSix3, sSix2, sSix1, sExp, sRet, sRai, sIte, sFor, y_var, y_cst, y_glb, y_bin, y_neg, y_not, y_cmp, y_chn, y_and, y_or, y_ife, y_tup, y_lst, y_idx, y_slc, y_rvs, y_rev, y_lc, y_lcf, y_len, y_bi, y_isi, y_mt, y_app, y_ext, y_pop, y_pat, y_ln, y_lc1, y_lset, kLs, y_lix, kLx1, kLx2, y_upp, kUp, y_edt, y_srk, kSk, srkV, y_sset, kSs, y_ch3, y_Bch3, kT1, kT2, kT3, kT4, y_idh, kIdh, y_lol, kLol, y_zip, kZ1, kZ2_ok, y_mk, kMk, y_lrg, y_lrg2, kLr, kLr1, kLr2, z_gh, z_swp, sSw1, sSw3, sSw4, sSw5, sSw6, y_pn, y_pc, y_rng, y_itv, y_an, y_on, z_nil, z_cons, z_asg, z_unp, z_six, z_exp, z_ret, z_retN, z_ite, z_for, z_whl, z_rai, z_tryB, c8_rt, c8_nx, cM_rt, cM_nx, z_pass, z_brk, z_cont, hr', hz, m0]
  rw [h1]
  simp [szl, Fn.start, bindT, E.isNil, y_Band, y_Bor, y_Bnot, y_Bcmp, y_Bchn, y_Bcall, y_Bisi, y_Bbi, y_Bvar, y_Bmt, y_Blen, y_Bbin, y_Bidx, y_Bcst, y_Blc, y_Blcf, kB2, kB1, kN, kNot, kC2, kC1, kH4, kH3, kH2, kH1, kI2, kI1, TL.kTup, kLst, kX2, kX1, kV3, kV2, kV1, kS3, kS2, kS1, kR, kFr, qE, qB, kL, kLf, kLen, kBi, kIs, kM1, kApp2, kApp1, kExt2, kExt1, kPop, kPat1, kE2, kE1, kP, kRg, kIv, kA2, kO2, kA1, kO1, kTr, sAsg, sUnp, sUnpL, z_unpL, sSix3, sSix2, sSix1, sExp, sRet, sRai, sIte, sFor, y_var, y_cst, y_glb, y_bin, y_neg, y_not, y_cmp, y_chn, y_and, y_or, y_ife, y_tup, y_lst, y_idx, y_slc, y_rvs, y_rev, y_lc, y_lcf, y_len, y_bi, y_isi, y_mt, y_app, y_ext, y_pop, y_pat, y_ln, y_lc1, y_lset, kLs, y_lix, kLx1, kLx2, y_upp, kUp, y_edt, y_srk, kSk, srkV, y_sset, kSs, y_ch3, y_Bch3, kT1, kT2, kT3, kT4, y_idh, kIdh, y_lol, kLol, y_zip, kZ1, kZ2_ok, y_mk, kMk, y_lrg, y_lrg2, kLr, kLr1, kLr2, z_gh, z_swp, sSw1, sSw3, sSw4, sSw5, sSw6, y_pn, y_pc, y_rng, y_itv, y_an, y_on, z_nil, z_cons, z_asg, z_unp, z_six, z_exp, z_ret, z_retN, z_ite, z_for, z_whl, z_rai, z_tryB, c8_rt, c8_nx, cM_rt, cM_nx, z_pass, z_brk, z_cont]
  exact fin
-- needs: _law_passes _law_to
theorem l_lp2 (n m : Nat) (ts : List (Int × Int)) (run : List Int) (μ : Mu) (hm : m ≤ 6) (ht : ts.length ≤ 100) (hs : Pl m ts) (p : Nat) (hp : p < m) (x0 x1 y4 y5 : Option Vl) :
    ((toP (ts.zip run) p).all (fun b => (toP (ts.zip run) b).all fun c => decide (c ∈ toP (ts.zip run) p)) = false ∧ TL.exec (R n) γ 1000 f_l_passes_b1 [x0, x1, some (.dt (.list (toL m (ts.zip run)))), some (.dt (.int (p : Int))), y4, y5] μ = .rt (.dt (.bool false)) μ) ∨
    ((toP (ts.zip run) p).all (fun b => (toP (ts.zip run) b).all fun c => decide (c ∈ toP (ts.zip run) p)) = true ∧ ∃ z4 z5, TL.exec (R n) γ 1000 f_l_passes_b1 [x0, x1, some (.dt (.list (toL m (ts.zip run)))), some (.dt (.int (p : Int))), y4, y5] μ = .nx [x0, x1, some (.dt (.list (toL m (ts.zip run)))), some (.dt (.int (p : Int))), z4, z5] μ) := by
  have hx := at_toL (m := m) (pr := ts.zip run) (p := (p : Int)) (by omega) (by omega)
  have tl : ∀ q, (toP (ts.zip run) q).length ≤ 100 := fun q => Nat.le_trans (toP_len _ q) (by simp; omega)
  have hb := fun x hx => toP_pl hs (run := run) (p := (p : Int)) (x := x) hx
  have ho : ∀ o : Int, 0 ≤ o → o < m → atI (toL m (ts.zip run)) o = some (.list ((toP (ts.zip run) o).map .int)) := fun o h0 h1 => at_toL h0 h1
  generalize toL m (ts.zip run) = TO at *
  generalize hL : toP (ts.zip run) = L at *
  have body : ∀ a ∈ L p, ∀ ρ : Ro, (∃ y4 y5, ρ = [x0, x1, some (.dt (.list TO)), some (.dt (.int (p : Int))), y4, y5]) →
      (((L a).all fun c => decide (c ∈ L p)) = false → TL.exec (R n) γ 1000 f_l_passes_b2 (ρ.set 4 (some (.dt (.int a)))) μ = .rt (.dt (.bool false)) μ) ∧ (((L a).all fun c => decide (c ∈ L p)) = true → ∃ ρ2, TL.exec (R n) γ 1000 f_l_passes_b2 (ρ.set 4 (some (.dt (.int a)))) μ = .nx ρ2 μ ∧ (∃ y4 y5, ρ2 = [x0, x1, some (.dt (.list TO)), some (.dt (.int (p : Int))), y4, y5])) := by
    rintro a ha ρ ⟨y4, y5, rfl⟩
    have hz : ¬ sizeLine < (L a).length := szn (by have := tl a; omega)
    have ha' := ho a (hb a ha).1 (hb a ha).2
    have hc : ∀ ρ : Ro, ρ = [x0, x1, some (.dt (.list TO)), some (.dt (.int (p : Int))), some (.dt (.int a)), y5] → lcL [5] (some (qB (R n) γ f_l_passes_c1)) (qE (R n) γ f_l_passes_e1) ρ ((L a).map .int) μ = .ok (((L a).filter fun c => !decide (c ∈ L p)).map .int) μ := by
      rintro ρ rfl
      refine lcfm (fun x : Int => PyData.int x) (fun c => !decide (c ∈ L p)) _ _ fun c _ => ⟨?_, fun _ => ?_⟩
      · have := nin_intl c (L p)
        simp [szl, Fn.start, bindT, E.isNil, y_Band, y_Bor, y_Bnot, y_Bcmp, y_Bchn, y_Bcall, y_Bisi, y_Bbi, y_Bvar, y_Bmt, y_Blen, y_Bbin, y_Bidx, y_Bcst, y_Blc, y_Blcf, kB2, kB1, kN, kNot, kC2, kC1, kH4, kH3, kH2, kH1, kI2, kI1, TL.kTup, kLst, kX2, kX1, kV3, kV2, kV1, kS3, kS2, kS1, kR, kFr, qE, qB, kL, kLf, kLen, kBi, kIs, kM1, kApp2, kApp1, kExt2, kExt1, kPop, kPat1, kE2, kE1, kP, kRg, kIv, kA2, kO2, kA1, kO1, kTr, sAsg, sUnp, sUnpL, z_unpL, sSix3, sSix2, sSix1, sExp, sRet, sRai, sIte, sFor, y_var, y_cst, y_glb, y_bin, y_neg, y_not, y_cmp, y_chn, y_and, y_or, y_ife, y_tup, y_lst, y_idx, y_slc, y_rvs, y_rev, y_lc, y_lcf, y_len, y_bi, y_isi, y_mt, y_app, y_ext, y_pop, y_pat, y_ln, y_lc1, y_lset, kLs, y_lix, kLx1, kLx2, y_upp, kUp, y_edt, y_srk, kSk, srkV, y_sset, kSs, y_ch3, y_Bch3, kT1, kT2, kT3, kT4, y_idh, kIdh, y_lol, kLol, y_zip, kZ1, kZ2_ok, y_mk, kMk, y_lrg, y_lrg2, kLr, kLr1, kLr2, z_gh, z_swp, sSw1, sSw3, sSw4, sSw5, sSw6, y_pn, y_pc, y_rng, y_itv, y_an, y_on, z_nil, z_cons, z_asg, z_unp, z_six, z_exp, z_ret, z_retN, z_ite, z_for, z_whl, z_rai, z_tryB, c8_rt, c8_nx, cM_rt, cM_nx, z_pass, z_brk, z_cont, hx, this]
      · simp [szl, Fn.start, bindT, E.isNil, y_Band, y_Bor, y_Bnot, y_Bcmp, y_Bchn, y_Bcall, y_Bisi, y_Bbi, y_Bvar, y_Bmt, y_Blen, y_Bbin, y_Bidx, y_Bcst, y_Blc, y_Blcf, kB2, kB1, kN, kNot, kC2, kC1, kH4, kH3, kH2, kH1, kI2, kI1, TL.kTup, kLst, kX2, kX1, kV3, kV2, kV1, kS3, kS2, kS1, kR, kFr, qE, qB, kL, kLf, kLen, kBi, kIs, kM1, kApp2, kApp1, kExt2, kExt1, kPop, kPat1, kE2, kE1, kP, kRg, kIv, kA2, kO2, kA1, kO1, kTr, sAsg, sUnp, sUnpL, z_unpL, sSix3, sSix2, sSix1, sExp, sRet, sRai, sIte, sFor, y_var, y_cst, y_glb, y_bin, y_neg, y_not, y_cmp, y_chn, y_and, y_or, y_ife, y_tup, y_lst, y_idx, y_slc, y_rvs, y_rev, y_lc, y_lcf, y_len, y_bi, y_isi, y_mt, y_app, y_ext, y_pop, y_pat, y_ln, y_lc1, y_lset, kLs, y_lix, kLx1, kLx2, y_upp, kUp, y_edt, y_srk, kSk, srkV, y_sset, kSs, y_ch3, y_Bch3, kT1, kT2, kT3, kT4, y_idh, kIdh, y_lol, kLol, y_zip, kZ1, kZ2_ok, y_mk, kMk, y_lrg, y_lrg2, kLr, kLr1, kLr2, z_gh, z_swp, sSw1, sSw3, sSw4, sSw5, sSw6, y_pn, y_pc, y_rng, y_itv, y_an, y_on, z_nil, z_cons, z_asg, z_unp, z_six, z_exp, z_ret, z_retN, z_ite, z_for, z_whl, z_rai, z_tryB, c8_rt, c8_nx, cM_rt, cM_nx, z_pass, z_brk, z_cont]
    have hn := ne_nil (ds := ((L a).filter fun c => !decide (c ∈ L p)).map .int) ((flat_ints _).up (by omega))
    have hk : (((L a).filter fun c => !decide (c ∈ L p)).map PyData.int).isEmpty = (L a).all fun c => decide (c ∈ L p) := by
      generalize L a = l
      induction l with
      | nil => rfl
      | cons x l ih =>
        by_cases h : x ∈ L p
        · simp [h] at ih ⊢
          exact ih
        · simp [h]
    rw [hk] at hn
    generalize ((L a).filter fun c => !decide (c ∈ L p)).map PyData.int = G at *
    cases hq : (L a).all fun c => decide (c ∈ L p) with
    | false =>
      refine ⟨fun _ => ?_, fun z => by cases z⟩
      rw [hq] at hn
      simp [szl, Fn.start, bindT, E.isNil, y_Band, y_Bor, y_Bnot, y_Bcmp, y_Bchn, y_Bcall, y_Bisi, y_Bbi, y_Bvar, y_Bmt, y_Blen, y_Bbin, y_Bidx, y_Bcst, y_Blc, y_Blcf, kB2, kB1, kN, kNot, kC2, kC1, kH4, kH3, kH2, kH1, kI2, kI1, TL.kTup, kLst, kX2, kX1, kV3, kV2, kV1, kS3, kS2, kS1, kR, kFr, qE, qB, kL, kLf, kLen, kBi, kIs, kM1, kApp2, kApp1, kExt2, kExt1, kPop, kPat1, kE2, kE1, kP, kRg, kIv, kA2, kO2, kA1, kO1, kTr, sAsg, sUnp, sUnpL, z_unpL, sSix3, sSix2, sSix1, sExp, sRet, sRai, sIte, sFor, y_var, y_cst, y_glb, y_bin, y_neg, y_not, y_cmp, y_chn, y_and, y_or, y_ife, y_tup, y_lst, y_idx, y_slc, y_rvs, y_rev, y_lc, y_lcf, y_len, y_bi, y_isi, y_mt, y_app, y_ext, y_pop, y_pat, y_ln, y_lc1, y_lset, kLs, y_lix, kLx1, kLx2, y_upp, kUp, y_edt, y_srk, kSk, srkV, y_sset, kSs, y_ch3, y_Bch3, kT1, kT2, kT3, kT4, y_idh, kIdh, y_lol, kLol, y_zip, kZ1, kZ2_ok, y_mk, kMk, y_lrg, y_lrg2, kLr, kLr1, kLr2, z_gh, z_swp, sSw1, sSw3, sSw4, sSw5, sSw6, y_pn, y_pc, y_rng, y_itv, y_an, y_on, z_nil, z_cons, z_asg, z_unp, z_six, z_exp, z_ret, z_retN, z_ite, z_for, z_whl, z_rai, z_tryB, c8_rt, c8_nx, cM_rt, cM_nx, z_pass, z_brk, z_cont, ha', hc _ rfl, hz, hn]
    | true =>
      refine ⟨fun z => (by cases z), fun _ => ⟨[x0, x1, some (.dt (.list TO)), some (.dt (.int (p : Int))), some (.dt (.int a)), y5], ?_, _, _, rfl⟩⟩
      rw [hq] at hn
      simp [szl, Fn.start, bindT, E.isNil, y_Band, y_Bor, y_Bnot, y_Bcmp, y_Bchn, y_Bcall, y_Bisi, y_Bbi, y_Bvar, y_Bmt, y_Blen, y_Bbin, y_Bidx, y_Bcst, y_Blc, y_Blcf, kB2, kB1, kN, kNot, kC2, kC1, kH4, kH3, kH2, kH1, kI2, kI1, TL.kTup, kLst, kX2, kX1, kV3, kV2, kV1, kS3, kS2, kS1, kR, kFr, qE, qB, kL, kLf, kLen, kBi, kIs, kM1, kApp2, kApp1, kExt2, kExt1, kPop, kPat1, kE2, kE1, kP, kRg, kIv, kA2, kO2, kA1, kO1, kTr, sAsg, sUnp, sUnpL, z_unpL, sSix3, sSix2, sSix1, sExp, sRet, sRai, sIte, sFor, y_var, y_cst, y_glb, y_bin, y_neg, y_not, y_cmp, y_chn, y_and, y_or, y_ife, y_tup, y_lst, y_idx, y_slc, y_rvs, y_rev, y_lc, y_lcf, y_len, y_bi, y_isi, y_mt, y_app, y_ext, y_pop, y_pat, y_ln, y_lc1, y_lset, kLs, y_lix, kLx1, kLx2, y_upp, kUp, y_edt, y_srk, kSk, srkV, y_sset, kSs, y_ch3, y_Bch3, kT1, kT2, kT3, kT4, y_idh, kIdh, y_lol, kLol, y_zip, kZ1, kZ2_ok, y_mk, kMk, y_lrg, y_lrg2, kLr, kLr1, kLr2, z_gh, z_swp, sSw1, sSw3, sSw4, sSw5, sSw6, y_pn, y_pc, y_rng, y_itv, y_an, y_on, z_nil, z_cons, z_asg, z_unp, z_six, z_exp, z_ret, z_retN, z_ite, z_for, z_whl, z_rai, z_tryB, c8_rt, c8_nx, cM_rt, cM_nx, z_pass, z_brk, z_cont, ha', hc _ rfl, hz, hn]
  rcases for_all (μ := μ) (i := 4) (body := TL.exec (R n) γ 1000 f_l_passes_b2) (fun x : Int => PyData.int x) (fun o => (L o).all fun c => decide (c ∈ L p)) (fun ρ => ∃ y4 y5, ρ = [x0, x1, some (.dt (.list TO)), some (.dt (.int (p : Int))), y4, y5]) (L p) _ ⟨y4, y5, rfl⟩ body with ⟨h1, h2⟩ | ⟨h1, ρ', h2, z4, z5, rfl⟩
  · refine .inl ⟨h1, ?_⟩
    simp [szl, Fn.start, bindT, E.isNil, y_Band, y_Bor, y_Bnot, y_Bcmp, y_Bchn, y_Bcall, y_Bisi, y_Bbi, y_Bvar, y_Bmt, y_Blen, y_Bbin, y_Bidx, y_Bcst, y_Blc, y_Blcf, kB2, kB1, kN, kNot, kC2, kC1, kH4, kH3, kH2, kH1, kI2, kI1, TL.kTup, kLst, kX2, kX1, kV3, kV2, kV1, kS3, kS2, kS1, kR, kFr, qE, qB, kL, kLf, kLen, kBi, kIs, kM1, kApp2, kApp1, kExt2, kExt1, kPop, kPat1, kE2, kE1, kP, kRg, kIv, kA2, kO2, kA1, kO1, kTr, sAsg, sUnp, sUnpL, z_unpL, sSix3, sSix2, sSix1, sExp, sRet, sRai, sIte, sFor, y_var, y_cst, y_glb, y_bin, y_neg, y_not, y_cmp, y_chn, y_and, y_or, y_ife, y_tup, y_lst, y_idx, y_slc, y_rvs, y_rev, y_lc, y_lcf, y_len, y_bi, y_isi, y_mt, y_app, y_ext, y_pop, y_pat, y_ln, y_lc1, y_lset, kLs, y_lix, kLx1, kLx2, y_upp, kUp, y_edt, y_srk, kSk, srkV, y_sset, kSs, y_ch3, y_Bch3, kT1, kT2, kT3, kT4, y_idh, kIdh, y_lol, kLol, y_zip, kZ1, kZ2_ok, y_mk, kMk, y_lrg, y_lrg2, kLr, kLr1, kLr2, z_gh, z_swp, sSw1, sSw3, sSw4, sSw5, sSw6, y_pn, y_pc, y_rng, y_itv, y_an, y_on, z_nil, z_cons, z_asg, z_unp, z_six, z_exp, z_ret, z_retN, z_ite, z_for, z_whl, z_rai, z_tryB, c8_rt, c8_nx, cM_rt, cM_nx, z_pass, z_brk, z_cont, hx]
    rw [h2]
    simp
  · refine .inr ⟨h1, z4, z5, ?_⟩
    simp [szl, Fn.start, bindT, E.isNil, y_Band, y_Bor, y_Bnot, y_Bcmp, y_Bchn, y_Bcall, y_Bisi, y_Bbi, y_Bvar, y_Bmt, y_Blen, y_Bbin, y_Bidx, y_Bcst, y_Blc, y_Blcf, kB2, kB1, kN, kNot, kC2, kC1, kH4, kH3, kH2, kH1, kI2, kI1, TL.kTup, kLst, kX2, kX1, kV3, kV2, kV1, kS3, kS2, kS1, kR, kFr, qE, qB, kL, kLf, kLen, kBi, kIs, kM1, kApp2, kApp1, kExt2, kExt1, kPop, kPat1, kE2, kE1, kP, kRg, kIv, kA2, kO2, kA1, kO1, kTr, sAsg, sUnp, sUnpL, z_unpL, sSix3, sSix2, sSix1, sExp, sRet, sRai, sIte, sFor, y_var, y_cst, y_glb, y_bin, y_neg, y_not, y_cmp, y_chn, y_and, y_or, y_ife, y_tup, y_lst, y_idx, y_slc, y_rvs, y_rev, y_lc, y_lcf, y_len, y_bi, y_isi, y_mt, y_app, y_ext, y_pop, y_pat, y_ln, y_lc1, y_lset, kLs, y_lix, kLx1, kLx2, y_upp, kUp, y_edt, y_srk, kSk, srkV, y_sset, kSs, y_ch3, y_Bch3, kT1, kT2, kT3, kT4, y_idh, kIdh, y_lol, kLol, y_zip, kZ1, kZ2_ok, y_mk, kMk, y_lrg, y_lrg2, kLr, kLr1, kLr2, z_gh, z_swp, sSw1, sSw3, sSw4, sSw5, sSw6, y_pn, y_pc, y_rng, y_itv, y_an, y_on, z_nil, z_cons, z_asg, z_unp, z_six, z_exp, z_ret, z_retN, z_ite, z_for, z_whl, z_rai, z_tryB, c8_rt, c8_nx, cM_rt, cM_nx, z_pass, z_brk, z_cont, hx]
    rw [h2]
    simp [szl, Fn.start, bindT, E.isNil, y_Band, y_Bor, y_Bnot, y_Bcmp, y_Bchn, y_Bcall, y_Bisi, y_Bbi, y_Bvar, y_Bmt, y_Blen, y_Bbin, y_Bidx, y_Bcst, y_Blc, y_Blcf, kB2, kB1, kN, kNot, kC2, kC1, kH4, kH3, kH2, kH1, kI2, kI1, TL.kTup, kLst, kX2, kX1, kV3, kV2, kV1, kS3, kS2, kS1, kR, kFr, qE, qB, kL, kLf, kLen, kBi, kIs, kM1, kApp2, kApp1, kExt2, kExt1, kPop, kPat1, kE2, kE1, kP, kRg, kIv, kA2, kO2, kA1, kO1, kTr, sAsg, sUnp, sUnpL, z_unpL, sSix3, sSix2, sSix1, sExp, sRet, sRai, sIte, sFor, y_var, y_cst, y_glb, y_bin, y_neg, y_not, y_cmp, y_chn, y_and, y_or, y_ife, y_tup, y_lst, y_idx, y_slc, y_rvs, y_rev, y_lc, y_lcf, y_len, y_bi, y_isi, y_mt, y_app, y_ext, y_pop, y_pat, y_ln, y_lc1, y_lset, kLs, y_lix, kLx1, kLx2, y_upp, kUp, y_edt, y_srk, kSk, srkV, y_sset, kSs, y_ch3, y_Bch3, kT1, kT2, kT3, kT4, y_idh, kIdh, y_lol, kLol, y_zip, kZ1, kZ2_ok, y_mk, kMk, y_lrg, y_lrg2, kLr, kLr1, kLr2, z_gh, z_swp, sSw1, sSw3, sSw4, sSw5, sSw6, y_pn, y_pc, y_rng, y_itv, y_an, y_on, z_nil, z_cons, z_asg, z_unp, z_six, z_exp, z_ret, z_retN, z_ite, z_for, z_whl, z_rai, z_tryB, c8_rt, c8_nx, cM_rt, cM_nx, z_pass, z_brk, z_cont]
theorem q_l_passes (n m : Nat) (ts : List (Int × Int)) (run : List Int) (μ : Mu) (hm : m ≤ 6) (ht : ts.length ≤ 100) (hs : Pl m ts) (hr : ∀ x ∈ run, x = 1 ∨ x = -1) : ap (n + 2) "_law_passes" [.dt (webD m ts), .dt (.tuple (run.map .int))] μ = .ok (.dt (.bool (passB m (toP (ts.zip run))))) μ := by
  have e1 := q_l_to n m ts run μ hm ht hs hr
  have hr' := rg_1 (m : Int) (by omega)
  simp only [Int.toNat_natCast] at hr'
  unfold rangeL at hr'
  rw [ap_succ d_l_passes, runFn_ok rfl]
  rcases for_all (μ := μ) (i := 3) (body := TL.exec (R (n + 1)) γ 1000 f_l_passes_b1) (fun k : Nat => PyData.int (0 + (k : Int))) (fun a : Nat => (toP (ts.zip run) a).all fun b => (toP (ts.zip run) b).all fun c => decide (c ∈ toP (ts.zip run) a))
    (fun ρ => ∃ y3 y4 y5, ρ = [some (.dt (webD m ts)), some (.dt (.tuple (run.map .int))), some (.dt (.list (toL m (ts.zip run)))), y3, y4, y5]) (List.range m) _ ⟨none, none, none, rfl⟩ (by
    rintro p hp ρ ⟨y3, y4, y5, rfl⟩
    rw [List.mem_range] at hp
    rcases l_lp2 (n + 1) m ts run μ hm ht hs p hp (some (.dt (webD m ts))) (some (.dt (.tuple (run.map .int)))) y4 y5 with ⟨h1, h2⟩ | ⟨h1, z4, z5, h2⟩
    · refine ⟨fun _ => ?_, fun z => by rw [h1] at z; cases z⟩
      simpa using h2
    · refine ⟨fun z => (by rw [h1] at z; cases z), fun _ => ⟨_, (by simpa using h2), _, _, _, rfl⟩⟩) with ⟨h1, h2⟩ | ⟨h1, ρ', h2, y3, y4, y5, rfl⟩
  · have h1' : passB m (toP (ts.zip run)) = false := h1
    rw [h1']
    simp [f_l_passes, szl, Fn.start, bindT, E.isNil, y_Band, y_Bor, y_Bnot, y_Bcmp, y_Bchn, y_Bcall, y_Bisi, y_Bbi, y_Bvar, y_Bmt, y_Blen, y_Bbin, y_Bidx, y_Bcst, y_Blc, y_Blcf, kB2, kB1, kN, kNot, kC2, kC1, kH4, kH3, kH2, kH1, kI2, kI1, TL.kTup, kLst, kX2, kX1, kV3, kV2, kV1, kS3, kS2, kS1, kR, kFr, qE, qB, kL, kLf, kLen, kBi, kIs, kM1, kApp2, kApp1, kExt2, kExt1, kPop, kPat1, kE2, kE1, kP, kRg, kIv, kA2, kO2, kA1, kO1, kTr, sAsg, sUnp, sUnpL, z_unpL, sSix3, sSix2, sSix1, sExp, sRet, sRai, sIte, sFor, y_var, y_cst, y_glb, y_bin, y_neg, y_not, y_cmp, y_chn, y_and, y_or, y_ife, y_tup, y_lst, y_idx, y_slc, y_rvs, y_rev, y_lc, y_lcf, y_len, y_bi, y_isi, y_mt, y_app, y_ext, y_pop, y_pat, y_ln, y_lc1, y_lset, kLs, y_lix, kLx1, kLx2, y_upp, kUp, y_edt, y_srk, kSk, srkV, y_sset, kSs, y_ch3, y_Bch3, kT1, kT2, kT3, kT4, y_idh, kIdh, y_lol, kLol, y_zip, kZ1, kZ2_ok, y_mk, kMk, y_lrg, y_lrg2, kLr, kLr1, kLr2, z_gh, z_swp, sSw1, sSw3, sSw4, sSw5, sSw6, y_pn, y_pc, y_rng, y_itv, y_an, y_on, z_nil, z_cons, z_asg, z_unp, z_six, z_exp, z_ret, z_retN, z_ite, z_for, z_whl, z_rai, z_tryB, c8_rt, c8_nx, cM_rt, cM_nx, z_pass, z_brk, z_cont, ev_call d_l_to, e1, hr']
    simp only [Int.zero_add] at h2
    rw [h2]
    simp
  · have h1' : passB m (toP (ts.zip run)) = true := h1
    rw [h1']
    simp [f_l_passes, szl, Fn.start, bindT, E.isNil, y_Band, y_Bor, y_Bnot, y_Bcmp, y_Bchn, y_Bcall, y_Bisi, y_Bbi, y_Bvar, y_Bmt, y_Blen, y_Bbin, y_Bidx, y_Bcst, y_Blc, y_Blcf, kB2, kB1, kN, kNot, kC2, kC1, kH4, kH3, kH2, kH1, kI2, kI1, TL.kTup, kLst, kX2, kX1, kV3, kV2, kV1, kS3, kS2, kS1, kR, kFr, qE, qB, kL, kLf, kLen, kBi, kIs, kM1, kApp2, kApp1, kExt2, kExt1, kPop, kPat1, kE2, kE1, kP, kRg, kIv, kA2, kO2, kA1, kO1, kTr, sAsg, sUnp, sUnpL, z_unpL, sSix3, sSix2, sSix1, sExp, sRet, sRai, sIte, sFor, y_var, y_cst, y_glb, y_bin, y_neg, y_not, y_cmp, y_chn, y_and, y_or, y_ife, y_tup, y_lst, y_idx, y_slc, y_rvs, y_rev, y_lc, y_lcf, y_len, y_bi, y_isi, y_mt, y_app, y_ext, y_pop, y_pat, y_ln, y_lc1, y_lset, kLs, y_lix, kLx1, kLx2, y_upp, kUp, y_edt, y_srk, kSk, srkV, y_sset, kSs, y_ch3, y_Bch3, kT1, kT2, kT3, kT4, y_idh, kIdh, y_lol, kLol, y_zip, kZ1, kZ2_ok, y_mk, kMk, y_lrg, y_lrg2, kLr, kLr1, kLr2, z_gh, z_swp, sSw1, sSw3, sSw4, sSw5, sSw6, y_pn, y_pc, y_rng, y_itv, y_an, y_on, z_nil, z_cons, z_asg, z_unp, z_six, z_exp, z_ret, z_retN, z_ite, z_for, z_whl, z_rai, z_tryB, c8_rt, c8_nx, cM_rt, cM_nx, z_pass, z_brk, z_cont, ev_call d_l_to, e1, hr']
    simp only [Int.zero_add] at h2
    rw [h2]
    simp [szl, Fn.start, bindT, E.isNil, y_Band, y_Bor, y_Bnot, y_Bcmp, y_Bchn, y_Bcall, y_Bisi, y_Bbi, y_Bvar, y_Bmt, y_Blen, y_Bbin, y_Bidx, y_Bcst, y_Blc, y_Blcf, kB2, kB1, kN, kNot, kC2, kC1, kH4, kH3, kH2, kH1, kI2, kI1, TL.kTup, kLst, kX2, kX1, kV3, kV2, kV1, kS3, kS2, kS1, kR, kFr, qE, qB, kL, kLf, kLen, kBi, kIs, kM1, kApp2, kApp1, kExt2, kExt1, kPop, kPat1, kE2, kE1, kP, kRg, kIv, kA2, kO2, kA1, kO1, kTr, sAsg, sUnp, sUnpL, z_unpL, sSix3, sSix2, sSix1, sExp, sRet, sRai, sIte, sFor, y_var, y_cst, y_glb, y_bin, y_neg, y_not, y_cmp, y_chn, y_and, y_or, y_ife, y_tup, y_lst, y_idx, y_slc, y_rvs, y_rev, y_lc, y_lcf, y_len, y_bi, y_isi, y_mt, y_app, y_ext, y_pop, y_pat, y_ln, y_lc1, y_lset, kLs, y_lix, kLx1, kLx2, y_upp, kUp, y_edt, y_srk, kSk, srkV, y_sset, kSs, y_ch3, y_Bch3, kT1, kT2, kT3, kT4, y_idh, kIdh, y_lol, kLol, y_zip, kZ1, kZ2_ok, y_mk, kMk, y_lrg, y_lrg2, kLr, kLr1, kLr2, z_gh, z_swp, sSw1, sSw3, sSw4, sSw5, sSw6, y_pn, y_pc, y_rng, y_itv, y_an, y_on, z_nil, z_cons, z_asg, z_unp, z_six, z_exp, z_ret, z_retN, z_ite, z_for, z_whl, z_rai, z_tryB, c8_rt, c8_nx, cM_rt, cM_nx, z_pass, z_brk, z_cont]
-- needs: _law_drawn_run _law_take
theorem l_dr1 (n k : Nat) (μ : Mu) (hk : k < μ.length) (x1 x3 x5 x6 x7 : Option Vl) : ∀ (g : Nat) (a : Nat) (l : List Int) (N : Int) (x4 : Option Vl), g ≤ l.length → l.length ≤ 1000 →
    ∃ (N' : Int) (o l' : List Int), lcL [4] none (qE (R (n + 1)) γ f_l_drawn_run_e1) [some (.hd k), x1, some (.hd μ.length), x3, x4, x5, x6, x7] ((List.range' a g).map fun j : Nat => PyData.int (j : Int)) (bx μ k N ++ [some (.lst (l.map .int))]) = .ok (o.map .int) (bx μ k N' ++ [some (.lst (l'.map .int))]) ∧ o.length = g
  | 0, a, l, N, x4, _, _ => ⟨N, [], l, by simp [lcL], rfl⟩
  | g + 1, a, l, N, x4, hg, hl => by
    have L0 : (0 : Int) < (l.length : Int) := by omega
    have t := q_takeA n k N (l.length : Int) μ [some (Ent.lst (l.map .int))] hk L0 (by omega)
    have p0 : 0 ≤ N % (l.length : Int) := Int.emod_nonneg _ (by omega)
    have p1 : N % (l.length : Int) < (l.length : Int) := Int.emod_lt_of_pos _ (by omega)
    obtain ⟨j, hj⟩ := Int.eq_ofNat_of_zero_le p0
    have jl : j < l.length := by omega
    obtain ⟨N', o, l', h1, h2⟩ := l_dr1 n k μ hk x1 x3 x5 x6 x7 g (a + 1) (l.eraseIdx j) (N / l.length) x4 (by rw [List.length_eraseIdx_of_lt jl]; omega) (by rw [List.length_eraseIdx_of_lt jl]; omega)
    refine ⟨N', l[j] :: o, l', ?_, by simp [h2]⟩
    rw [hj] at t
    have hp := kPat2_ok (μ := bx μ k (N / (l.length : Int)) ++ [some (.lst (l.map .int))]) (k := μ.length) (j := j) ap_get (by simpa using jl) (by omega)
    have er : (l.map PyData.int).eraseIdx j = (l.eraseIdx j).map .int := er_map ..
    rw [List.range'_succ, List.map_cons]
    simp [lcL, szl, Fn.start, bindT, E.isNil, y_Band, y_Bor, y_Bnot, y_Bcmp, y_Bchn, y_Bcall, y_Bisi, y_Bbi, y_Bvar, y_Bmt, y_Blen, y_Bbin, y_Bidx, y_Bcst, y_Blc, y_Blcf, kB2, kB1, kN, kNot, kC2, kC1, kH4, kH3, kH2, kH1, kI2, kI1, TL.kTup, kLst, kX2, kX1, kV3, kV2, kV1, kS3, kS2, kS1, kR, kFr, qE, qB, kL, kLf, kLen, kBi, kIs, kM1, kApp2, kApp1, kExt2, kExt1, kPop, kPat1, kE2, kE1, kP, kRg, kIv, kA2, kO2, kA1, kO1, kTr, sAsg, sUnp, sUnpL, z_unpL, sSix3, sSix2, sSix1, sExp, sRet, sRai, sIte, sFor, y_var, y_cst, y_glb, y_bin, y_neg, y_not, y_cmp, y_chn, y_and, y_or, y_ife, y_tup, y_lst, y_idx, y_slc, y_rvs, y_rev, y_lc, y_lcf, y_len, y_bi, y_isi, y_mt, y_app, y_ext, y_pop, y_pat, y_ln, y_lc1, y_lset, kLs, y_lix, kLx1, kLx2, y_upp, kUp, y_edt, y_srk, kSk, srkV, y_sset, kSs, y_ch3, y_Bch3, kT1, kT2, kT3, kT4, y_idh, kIdh, y_lol, kLol, y_zip, kZ1, kZ2_ok, y_mk, kMk, y_lrg, y_lrg2, kLr, kLr1, kLr2, z_gh, z_swp, sSw1, sSw3, sSw4, sSw5, sSw6, y_pn, y_pc, y_rng, y_itv, y_an, y_on, z_nil, z_cons, z_asg, z_unp, z_six, z_exp, z_ret, z_retN, z_ite, z_for, z_whl, z_rai, z_tryB, c8_rt, c8_nx, cM_rt, cM_nx, z_pass, z_brk, z_cont, drf, isL, ev_call d_l_take, t, hp, er]
    rw [h1]
    simp
theorem l_dr2 (n k : Nat) (μ : Mu) (hk : k < μ.length) (y : Option Ent) (x1 x2 x3 x4 x5 x6 x7 : Option Vl) : ∀ (ts : List (Int × Int)) (N : Int),
    ∃ (N' : Int) (r : List Int), lcL [5] none (qE (R (n + 1)) γ f_l_drawn_run_e2) [some (.hd k), x1, x2, x3, x4, x5, x6, x7] (ts.map tieD) (bx μ k N ++ [y]) = .ok (r.map .int) (bx μ k N' ++ [y]) ∧ r.length = ts.length ∧ ∀ x ∈ r, x = 1 ∨ x = -1
  | [], N => ⟨N, [], by simp [lcL], rfl, fun x h => by cases h⟩
  | t :: ts, N => by
    have tk := q_takeA n k N 2 μ [y] hk (by omega) (by omega)
    obtain ⟨N', r, h1, h2, h3⟩ := l_dr2 n k μ hk y x1 x2 x3 x4 x5 x6 x7 ts (N / 2)
    have p0 : N % 2 = 0 ∨ N % 2 = 1 := by omega
    rcases p0 with p0 | p0
    · rw [p0] at tk
      refine ⟨N', -1 :: r, ?_, by simp [h2], fun x hx => ?_⟩
      · simp [lcL, szl, Fn.start, bindT, E.isNil, y_Band, y_Bor, y_Bnot, y_Bcmp, y_Bchn, y_Bcall, y_Bisi, y_Bbi, y_Bvar, y_Bmt, y_Blen, y_Bbin, y_Bidx, y_Bcst, y_Blc, y_Blcf, kB2, kB1, kN, kNot, kC2, kC1, kH4, kH3, kH2, kH1, kI2, kI1, TL.kTup, kLst, kX2, kX1, kV3, kV2, kV1, kS3, kS2, kS1, kR, kFr, qE, qB, kL, kLf, kLen, kBi, kIs, kM1, kApp2, kApp1, kExt2, kExt1, kPop, kPat1, kE2, kE1, kP, kRg, kIv, kA2, kO2, kA1, kO1, kTr, sAsg, sUnp, sUnpL, z_unpL, sSix3, sSix2, sSix1, sExp, sRet, sRai, sIte, sFor, y_var, y_cst, y_glb, y_bin, y_neg, y_not, y_cmp, y_chn, y_and, y_or, y_ife, y_tup, y_lst, y_idx, y_slc, y_rvs, y_rev, y_lc, y_lcf, y_len, y_bi, y_isi, y_mt, y_app, y_ext, y_pop, y_pat, y_ln, y_lc1, y_lset, kLs, y_lix, kLx1, kLx2, y_upp, kUp, y_edt, y_srk, kSk, srkV, y_sset, kSs, y_ch3, y_Bch3, kT1, kT2, kT3, kT4, y_idh, kIdh, y_lol, kLol, y_zip, kZ1, kZ2_ok, y_mk, kMk, y_lrg, y_lrg2, kLr, kLr1, kLr2, z_gh, z_swp, sSw1, sSw3, sSw4, sSw5, sSw6, y_pn, y_pc, y_rng, y_itv, y_an, y_on, z_nil, z_cons, z_asg, z_unp, z_six, z_exp, z_ret, z_retN, z_ite, z_for, z_whl, z_rai, z_tryB, c8_rt, c8_nx, cM_rt, cM_nx, z_pass, z_brk, z_cont, ev_call d_l_take, tk]
        rw [h1]
        simp
      · rcases List.mem_cons.mp hx with rfl | hx
        · exact .inr rfl
        · exact h3 x hx
    · rw [p0] at tk
      refine ⟨N', 1 :: r, ?_, by simp [h2], fun x hx => ?_⟩
      · simp [lcL, szl, Fn.start, bindT, E.isNil, y_Band, y_Bor, y_Bnot, y_Bcmp, y_Bchn, y_Bcall, y_Bisi, y_Bbi, y_Bvar, y_Bmt, y_Blen, y_Bbin, y_Bidx, y_Bcst, y_Blc, y_Blcf, kB2, kB1, kN, kNot, kC2, kC1, kH4, kH3, kH2, kH1, kI2, kI1, TL.kTup, kLst, kX2, kX1, kV3, kV2, kV1, kS3, kS2, kS1, kR, kFr, qE, qB, kL, kLf, kLen, kBi, kIs, kM1, kApp2, kApp1, kExt2, kExt1, kPop, kPat1, kE2, kE1, kP, kRg, kIv, kA2, kO2, kA1, kO1, kTr, sAsg, sUnp, sUnpL, z_unpL, sSix3, sSix2, sSix1, sExp, sRet, sRai, sIte, sFor, y_var, y_cst, y_glb, y_bin, y_neg, y_not, y_cmp, y_chn, y_and, y_or, y_ife, y_tup, y_lst, y_idx, y_slc, y_rvs, y_rev, y_lc, y_lcf, y_len, y_bi, y_isi, y_mt, y_app, y_ext, y_pop, y_pat, y_ln, y_lc1, y_lset, kLs, y_lix, kLx1, kLx2, y_upp, kUp, y_edt, y_srk, kSk, srkV, y_sset, kSs, y_ch3, y_Bch3, kT1, kT2, kT3, kT4, y_idh, kIdh, y_lol, kLol, y_zip, kZ1, kZ2_ok, y_mk, kMk, y_lrg, y_lrg2, kLr, kLr1, kLr2, z_gh, z_swp, sSw1, sSw3, sSw4, sSw5, sSw6, y_pn, y_pc, y_rng, y_itv, y_an, y_on, z_nil, z_cons, z_asg, z_unp, z_six, z_exp, z_ret, z_retN, z_ite, z_for, z_whl, z_rai, z_tryB, c8_rt, c8_nx, cM_rt, cM_nx, z_pass, z_brk, z_cont, ev_call d_l_take, tk]
        rw [h1]
        simp
      · rcases List.mem_cons.mp hx with rfl | hx
        · exact .inl rfl
        · exact h3 x hx
theorem q_drawn_run (n k : Nat) (N : Int) (m : Nat) (ts : List (Int × Int)) (μ : Mu) (hk : k < μ.length) (hm : m ≤ 6) (ht : ts.length ≤ 15) (hs : Pl m ts) :
    ∃ (N' : Int) (r : List Int), ap (n + 2) "_law_drawn_run" [.hd k, .dt (webD m ts)] (bx μ k N) = .ok (.dt (rwT r)) (bx μ k N') ∧ r.length = ts.length ∧ ∀ x ∈ r, x = 1 ∨ x = -1 := by
  have lr : lrF 0 (m : Int) = some (.fr (((List.range m).map fun j : Nat => (j : Int)).map .int)) := by
    unfold lrF
    rw [if_pos (by omega)]
    simp [rangeL]
  have hr := rg_1 (m : Int) (by omega)
  simp only [Int.toNat_natCast] at hr
  have er : rangeL 0 m = (List.range' 0 m).map fun j : Nat => PyData.int (j : Int) := by
    unfold rangeL
    rw [List.range_eq_range']
    refine List.map_congr_left fun j _ => ?_
    simp
  rw [er] at hr
  have hz : ¬ sizeLine < m := szn (by omega)
  have hz2 : ¬ sizeLine < ts.length := szn (by omega)
  obtain ⟨N1, o, l', h1, ho⟩ := l_dr1 n k μ hk (some (.dt (webD m ts))) none none none none m 0 ((List.range m).map fun j : Nat => (j : Int)) N none (by simp) (by simp; omega)
  have tk := q_takeA n k N1 3 μ [some (Ent.lst (l'.map .int))] hk (by omega) (by omega)
  generalize hL : ((List.range m).map fun j : Nat => (j : Int)).map PyData.int = L at *
  by_cases h3 : N1 % 3 = 0
  · rw [h3] at tk
    obtain ⟨N2, r, h4, h5, h6⟩ := l_dr2 n k μ hk (some (Ent.lst (l'.map .int))) (some (.dt (webD m ts))) (some (.hd μ.length)) (some (.dt (.list (o.map .int)))) none none none none ts (N1 / 3)
    refine ⟨N2, r, ?_, h5, h6⟩
    rw [ap_succ d_l_drawn_run, runFn_ok rfl]
    simp [f_l_drawn_run, szl, Fn.start, bindT, E.isNil, y_Band, y_Bor, y_Bnot, y_Bcmp, y_Bchn, y_Bcall, y_Bisi, y_Bbi, y_Bvar, y_Bmt, y_Blen, y_Bbin, y_Bidx, y_Bcst, y_Blc, y_Blcf, kB2, kB1, kN, kNot, kC2, kC1, kH4, kH3, kH2, kH1, kI2, kI1, TL.kTup, kLst, kX2, kX1, kV3, kV2, kV1, kS3, kS2, kS1, kR, kFr, qE, qB, kL, kLf, kLen, kBi, kIs, kM1, kApp2, kApp1, kExt2, kExt1, kPop, kPat1, kE2, kE1, kP, kRg, kIv, kA2, kO2, kA1, kO1, kTr, sAsg, sUnp, sUnpL, z_unpL, sSix3, sSix2, sSix1, sExp, sRet, sRai, sIte, sFor, y_var, y_cst, y_glb, y_bin, y_neg, y_not, y_cmp, y_chn, y_and, y_or, y_ife, y_tup, y_lst, y_idx, y_slc, y_rvs, y_rev, y_lc, y_lcf, y_len, y_bi, y_isi, y_mt, y_app, y_ext, y_pop, y_pat, y_ln, y_lc1, y_lset, kLs, y_lix, kLx1, kLx2, y_upp, kUp, y_edt, y_srk, kSk, srkV, y_sset, kSs, y_ch3, y_Bch3, kT1, kT2, kT3, kT4, y_idh, kIdh, y_lol, kLol, y_zip, kZ1, kZ2_ok, y_mk, kMk, y_lrg, y_lrg2, kLr, kLr1, kLr2, z_gh, z_swp, sSw1, sSw3, sSw4, sSw5, sSw6, y_pn, y_pc, y_rng, y_itv, y_an, y_on, z_nil, z_cons, z_asg, z_unp, z_six, z_exp, z_ret, z_retN, z_ite, z_for, z_whl, z_rai, z_tryB, c8_rt, c8_nx, cM_rt, cM_nx, z_pass, z_brk, z_cont, lr, hr, hz]
    rw [h1]
    simp [szl, Fn.start, bindT, E.isNil, y_Band, y_Bor, y_Bnot, y_Bcmp, y_Bchn, y_Bcall, y_Bisi, y_Bbi, y_Bvar, y_Bmt, y_Blen, y_Bbin, y_Bidx, y_Bcst, y_Blc, y_Blcf, kB2, kB1, kN, kNot, kC2, kC1, kH4, kH3, kH2, kH1, kI2, kI1, TL.kTup, kLst, kX2, kX1, kV3, kV2, kV1, kS3, kS2, kS1, kR, kFr, qE, qB, kL, kLf, kLen, kBi, kIs, kM1, kApp2, kApp1, kExt2, kExt1, kPop, kPat1, kE2, kE1, kP, kRg, kIv, kA2, kO2, kA1, kO1, kTr, sAsg, sUnp, sUnpL, z_unpL, sSix3, sSix2, sSix1, sExp, sRet, sRai, sIte, sFor, y_var, y_cst, y_glb, y_bin, y_neg, y_not, y_cmp, y_chn, y_and, y_or, y_ife, y_tup, y_lst, y_idx, y_slc, y_rvs, y_rev, y_lc, y_lcf, y_len, y_bi, y_isi, y_mt, y_app, y_ext, y_pop, y_pat, y_ln, y_lc1, y_lset, kLs, y_lix, kLx1, kLx2, y_upp, kUp, y_edt, y_srk, kSk, srkV, y_sset, kSs, y_ch3, y_Bch3, kT1, kT2, kT3, kT4, y_idh, kIdh, y_lol, kLol, y_zip, kZ1, kZ2_ok, y_mk, kMk, y_lrg, y_lrg2, kLr, kLr1, kLr2, z_gh, z_swp, sSw1, sSw3, sSw4, sSw5, sSw6, y_pn, y_pc, y_rng, y_itv, y_an, y_on, z_nil, z_cons, z_asg, z_unp, z_six, z_exp, z_ret, z_retN, z_ite, z_for, z_whl, z_rai, z_tryB, c8_rt, c8_nx, cM_rt, cM_nx, z_pass, z_brk, z_cont, ev_call d_l_take, tk, hz2]
    rw [h4]
    simp [szl, Fn.start, bindT, E.isNil, y_Band, y_Bor, y_Bnot, y_Bcmp, y_Bchn, y_Bcall, y_Bisi, y_Bbi, y_Bvar, y_Bmt, y_Blen, y_Bbin, y_Bidx, y_Bcst, y_Blc, y_Blcf, kB2, kB1, kN, kNot, kC2, kC1, kH4, kH3, kH2, kH1, kI2, kI1, TL.kTup, kLst, kX2, kX1, kV3, kV2, kV1, kS3, kS2, kS1, kR, kFr, qE, qB, kL, kLf, kLen, kBi, kIs, kM1, kApp2, kApp1, kExt2, kExt1, kPop, kPat1, kE2, kE1, kP, kRg, kIv, kA2, kO2, kA1, kO1, kTr, sAsg, sUnp, sUnpL, z_unpL, sSix3, sSix2, sSix1, sExp, sRet, sRai, sIte, sFor, y_var, y_cst, y_glb, y_bin, y_neg, y_not, y_cmp, y_chn, y_and, y_or, y_ife, y_tup, y_lst, y_idx, y_slc, y_rvs, y_rev, y_lc, y_lcf, y_len, y_bi, y_isi, y_mt, y_app, y_ext, y_pop, y_pat, y_ln, y_lc1, y_lset, kLs, y_lix, kLx1, kLx2, y_upp, kUp, y_edt, y_srk, kSk, srkV, y_sset, kSs, y_ch3, y_Bch3, kT1, kT2, kT3, kT4, y_idh, kIdh, y_lol, kLol, y_zip, kZ1, kZ2_ok, y_mk, kMk, y_lrg, y_lrg2, kLr, kLr1, kLr2, z_gh, z_swp, sSw1, sSw3, sSw4, sSw5, sSw6, y_pn, y_pc, y_rng, y_itv, y_an, y_on, z_nil, z_cons, z_asg, z_unp, z_six, z_exp, z_ret, z_retN, z_ite, z_for, z_whl, z_rai, z_tryB, c8_rt, c8_nx, cM_rt, cM_nx, z_pass, z_brk, z_cont, rwT]
  · let f : Int × Int → Int := fun t => if o.getD t.1.toNat 0 < o.getD t.2.toNat 0 then 1 else -1
    have oa : ∀ i : Int, 0 ≤ i → i < m → atI (o.map PyData.int) i = some (.int (o.getD i.toNat 0)) := fun i i0 i1 => by
      obtain ⟨j, rfl⟩ := Int.eq_ofNat_of_zero_le i0
      rw [at_nat, List.getElem?_map]
      have : j < o.length := by omega
      simp [List.getD, this]
    have h4 : ∀ ρ : Ro, ∀ M : Mu, ρ = [some (.hd k), some (.dt (webD m ts)), some (.hd μ.length), some (.dt (.list (o.map .int))), none, none, none, none] → lcL [6, 7] none (qE (R (n + 1)) γ f_l_drawn_run_e3) ρ (ts.map tieD) M = .ok ((ts.map f).map .int) M := by
      rintro ρ M rfl
      rw [List.map_map]
      refine lcm2 _ _ fun t h => ?_
      have g := hs t h
      have a1 := oa t.1 g.1.1 g.1.2
      have a2 := oa t.2 g.2.1 g.2.2
      show _ = Rs.ok (Vl.dt (PyData.int (if o.getD t.1.toNat 0 < o.getD t.2.toNat 0 then 1 else -1))) M
      generalize o.map PyData.int = OO at *
      generalize o.getD t.1.toNat 0 = u1 at a1 ⊢
      generalize o.getD t.2.toNat 0 = u2 at a2 ⊢
      by_cases hlt : u1 < u2
      · simp [szl, Fn.start, bindT, E.isNil, y_Band, y_Bor, y_Bnot, y_Bcmp, y_Bchn, y_Bcall, y_Bisi, y_Bbi, y_Bvar, y_Bmt, y_Blen, y_Bbin, y_Bidx, y_Bcst, y_Blc, y_Blcf, kB2, kB1, kN, kNot, kC2, kC1, kH4, kH3, kH2, kH1, kI2, kI1, TL.kTup, kLst, kX2, kX1, kV3, kV2, kV1, kS3, kS2, kS1, kR, kFr, qE, qB, kL, kLf, kLen, kBi, kIs, kM1, kApp2, kApp1, kExt2, kExt1, kPop, kPat1, kE2, kE1, kP, kRg, kIv, kA2, kO2, kA1, kO1, kTr, sAsg, sUnp, sUnpL, z_unpL, sSix3, sSix2, sSix1, sExp, sRet, sRai, sIte, sFor, y_var, y_cst, y_glb, y_bin, y_neg, y_not, y_cmp, y_chn, y_and, y_or, y_ife, y_tup, y_lst, y_idx, y_slc, y_rvs, y_rev, y_lc, y_lcf, y_len, y_bi, y_isi, y_mt, y_app, y_ext, y_pop, y_pat, y_ln, y_lc1, y_lset, kLs, y_lix, kLx1, kLx2, y_upp, kUp, y_edt, y_srk, kSk, srkV, y_sset, kSs, y_ch3, y_Bch3, kT1, kT2, kT3, kT4, y_idh, kIdh, y_lol, kLol, y_zip, kZ1, kZ2_ok, y_mk, kMk, y_lrg, y_lrg2, kLr, kLr1, kLr2, z_gh, z_swp, sSw1, sSw3, sSw4, sSw5, sSw6, y_pn, y_pc, y_rng, y_itv, y_an, y_on, z_nil, z_cons, z_asg, z_unp, z_six, z_exp, z_ret, z_retN, z_ite, z_for, z_whl, z_rai, z_tryB, c8_rt, c8_nx, cM_rt, cM_nx, z_pass, z_brk, z_cont, a1, a2, hlt]
      · simp [szl, Fn.start, bindT, E.isNil, y_Band, y_Bor, y_Bnot, y_Bcmp, y_Bchn, y_Bcall, y_Bisi, y_Bbi, y_Bvar, y_Bmt, y_Blen, y_Bbin, y_Bidx, y_Bcst, y_Blc, y_Blcf, kB2, kB1, kN, kNot, kC2, kC1, kH4, kH3, kH2, kH1, kI2, kI1, TL.kTup, kLst, kX2, kX1, kV3, kV2, kV1, kS3, kS2, kS1, kR, kFr, qE, qB, kL, kLf, kLen, kBi, kIs, kM1, kApp2, kApp1, kExt2, kExt1, kPop, kPat1, kE2, kE1, kP, kRg, kIv, kA2, kO2, kA1, kO1, kTr, sAsg, sUnp, sUnpL, z_unpL, sSix3, sSix2, sSix1, sExp, sRet, sRai, sIte, sFor, y_var, y_cst, y_glb, y_bin, y_neg, y_not, y_cmp, y_chn, y_and, y_or, y_ife, y_tup, y_lst, y_idx, y_slc, y_rvs, y_rev, y_lc, y_lcf, y_len, y_bi, y_isi, y_mt, y_app, y_ext, y_pop, y_pat, y_ln, y_lc1, y_lset, kLs, y_lix, kLx1, kLx2, y_upp, kUp, y_edt, y_srk, kSk, srkV, y_sset, kSs, y_ch3, y_Bch3, kT1, kT2, kT3, kT4, y_idh, kIdh, y_lol, kLol, y_zip, kZ1, kZ2_ok, y_mk, kMk, y_lrg, y_lrg2, kLr, kLr1, kLr2, z_gh, z_swp, sSw1, sSw3, sSw4, sSw5, sSw6, y_pn, y_pc, y_rng, y_itv, y_an, y_on, z_nil, z_cons, z_asg, z_unp, z_six, z_exp, z_ret, z_retN, z_ite, z_for, z_whl, z_rai, z_tryB, c8_rt, c8_nx, cM_rt, cM_nx, z_pass, z_brk, z_cont, a1, a2, hlt]
    refine ⟨N1 / 3, ts.map f, ?_, by simp, fun x hx => ?_⟩
    · rw [ap_succ d_l_drawn_run, runFn_ok rfl]
      simp [f_l_drawn_run, szl, Fn.start, bindT, E.isNil, y_Band, y_Bor, y_Bnot, y_Bcmp, y_Bchn, y_Bcall, y_Bisi, y_Bbi, y_Bvar, y_Bmt, y_Blen, y_Bbin, y_Bidx, y_Bcst, y_Blc, y_Blcf, kB2, kB1, kN, kNot, kC2, kC1, kH4, kH3, kH2, kH1, kI2, kI1, TL.kTup, kLst, kX2, kX1, kV3, kV2, kV1, kS3, kS2, kS1, kR, kFr, qE, qB, kL, kLf, kLen, kBi, kIs, kM1, kApp2, kApp1, kExt2, kExt1, kPop, kPat1, kE2, kE1, kP, kRg, kIv, kA2, kO2, kA1, kO1, kTr, sAsg, sUnp, sUnpL, z_unpL, sSix3, sSix2, sSix1, sExp, sRet, sRai, sIte, sFor, y_var, y_cst, y_glb, y_bin, y_neg, y_not, y_cmp, y_chn, y_and, y_or, y_ife, y_tup, y_lst, y_idx, y_slc, y_rvs, y_rev, y_lc, y_lcf, y_len, y_bi, y_isi, y_mt, y_app, y_ext, y_pop, y_pat, y_ln, y_lc1, y_lset, kLs, y_lix, kLx1, kLx2, y_upp, kUp, y_edt, y_srk, kSk, srkV, y_sset, kSs, y_ch3, y_Bch3, kT1, kT2, kT3, kT4, y_idh, kIdh, y_lol, kLol, y_zip, kZ1, kZ2_ok, y_mk, kMk, y_lrg, y_lrg2, kLr, kLr1, kLr2, z_gh, z_swp, sSw1, sSw3, sSw4, sSw5, sSw6, y_pn, y_pc, y_rng, y_itv, y_an, y_on, z_nil, z_cons, z_asg, z_unp, z_six, z_exp, z_ret, z_retN, z_ite, z_for, z_whl, z_rai, z_tryB, c8_rt, c8_nx, cM_rt, cM_nx, z_pass, z_brk, z_cont, lr, hr, hz]
      rw [h1]
      simp [szl, Fn.start, bindT, E.isNil, y_Band, y_Bor, y_Bnot, y_Bcmp, y_Bchn, y_Bcall, y_Bisi, y_Bbi, y_Bvar, y_Bmt, y_Blen, y_Bbin, y_Bidx, y_Bcst, y_Blc, y_Blcf, kB2, kB1, kN, kNot, kC2, kC1, kH4, kH3, kH2, kH1, kI2, kI1, TL.kTup, kLst, kX2, kX1, kV3, kV2, kV1, kS3, kS2, kS1, kR, kFr, qE, qB, kL, kLf, kLen, kBi, kIs, kM1, kApp2, kApp1, kExt2, kExt1, kPop, kPat1, kE2, kE1, kP, kRg, kIv, kA2, kO2, kA1, kO1, kTr, sAsg, sUnp, sUnpL, z_unpL, sSix3, sSix2, sSix1, sExp, sRet, sRai, sIte, sFor, y_var, y_cst, y_glb, y_bin, y_neg, y_not, y_cmp, y_chn, y_and, y_or, y_ife, y_tup, y_lst, y_idx, y_slc, y_rvs, y_rev, y_lc, y_lcf, y_len, y_bi, y_isi, y_mt, y_app, y_ext, y_pop, y_pat, y_ln, y_lc1, y_lset, kLs, y_lix, kLx1, kLx2, y_upp, kUp, y_edt, y_srk, kSk, srkV, y_sset, kSs, y_ch3, y_Bch3, kT1, kT2, kT3, kT4, y_idh, kIdh, y_lol, kLol, y_zip, kZ1, kZ2_ok, y_mk, kMk, y_lrg, y_lrg2, kLr, kLr1, kLr2, z_gh, z_swp, sSw1, sSw3, sSw4, sSw5, sSw6, y_pn, y_pc, y_rng, y_itv, y_an, y_on, z_nil, z_cons, z_asg, z_unp, z_six, z_exp, z_ret, z_retN, z_ite, z_for, z_whl, z_rai, z_tryB, c8_rt, c8_nx, cM_rt, cM_nx, z_pass, z_brk, z_cont, ev_call d_l_take, tk, hz2, h3]
      rw [h4 _ _ rfl]
      simp [szl, Fn.start, bindT, E.isNil, y_Band, y_Bor, y_Bnot, y_Bcmp, y_Bchn, y_Bcall, y_Bisi, y_Bbi, y_Bvar, y_Bmt, y_Blen, y_Bbin, y_Bidx, y_Bcst, y_Blc, y_Blcf, kB2, kB1, kN, kNot, kC2, kC1, kH4, kH3, kH2, kH1, kI2, kI1, TL.kTup, kLst, kX2, kX1, kV3, kV2, kV1, kS3, kS2, kS1, kR, kFr, qE, qB, kL, kLf, kLen, kBi, kIs, kM1, kApp2, kApp1, kExt2, kExt1, kPop, kPat1, kE2, kE1, kP, kRg, kIv, kA2, kO2, kA1, kO1, kTr, sAsg, sUnp, sUnpL, z_unpL, sSix3, sSix2, sSix1, sExp, sRet, sRai, sIte, sFor, y_var, y_cst, y_glb, y_bin, y_neg, y_not, y_cmp, y_chn, y_and, y_or, y_ife, y_tup, y_lst, y_idx, y_slc, y_rvs, y_rev, y_lc, y_lcf, y_len, y_bi, y_isi, y_mt, y_app, y_ext, y_pop, y_pat, y_ln, y_lc1, y_lset, kLs, y_lix, kLx1, kLx2, y_upp, kUp, y_edt, y_srk, kSk, srkV, y_sset, kSs, y_ch3, y_Bch3, kT1, kT2, kT3, kT4, y_idh, kIdh, y_lol, kLol, y_zip, kZ1, kZ2_ok, y_mk, kMk, y_lrg, y_lrg2, kLr, kLr1, kLr2, z_gh, z_swp, sSw1, sSw3, sSw4, sSw5, sSw6, y_pn, y_pc, y_rng, y_itv, y_an, y_on, z_nil, z_cons, z_asg, z_unp, z_six, z_exp, z_ret, z_retN, z_ite, z_for, z_whl, z_rai, z_tryB, c8_rt, c8_nx, cM_rt, cM_nx, z_pass, z_brk, z_cont, rwT]
    · obtain ⟨t, _, rfl⟩ := List.mem_map.mp hx
      show f t = 1 ∨ f t = -1
      unfold f
      split
      · exact .inl rfl
      · exact .inr rfl
theorem rp_oR {o : Option (List Int)} (h : ∀ r, o = some r → r.length ≤ 100 ∧ ∀ x ∈ r, x = 1 ∨ x = -1) : biF .repr [oR o] = some (.dt (.str (oR o).shown)) := by
  cases o with
  | none => exact bi_repr rp_none (by omega) (by omega)
  | some r =>
    obtain ⟨h1, h2⟩ := h r rfl
    exact rp_intt (fun i hi => by rcases h2 i hi with rfl | rfl <;> decide) (by omega)
theorem passF_ok {m : Nat} {ts : List (Int × Int)} (hl : ts.length ≤ 15) : ∀ r, passF m ts = some r → r.length ≤ 100 ∧ ∀ x ∈ r, x = 1 ∨ x = -1 := fun r h => by
  have := allR_mem.mp (List.mem_of_find?_eq_some h)
  exact ⟨by omega, this.2⟩
theorem passF_head {m : Nat} {ts : List (Int × Int)} (h : passB m (toP (ts.zip (List.replicate ts.length (-1)))) = true) : passF m ts = some (List.replicate ts.length (-1)) := by
  have e := allR_head ts.length
  unfold passF
  cases hA : allR ts.length with
  | nil => rw [hA] at e; cases e
  | cons a L =>
    rw [hA] at e
    cases e
    rw [List.find?_cons, h]
/-- one run held against the law's own looking -/
theorem l_one (n m : Nat) (ts : List (Int × Int)) (r : List Int) (M : Mu) (m1 : 1 ≤ m) (hm : m ≤ 6) (hs : ts.Sublist (twos m)) (hl : r.length = ts.length) (h : ∀ x ∈ r, x = 1 ∨ x = -1) :
    ap (n + 7) "passes_on" [.dt (webD m ts), .dt (rwT r)] M = .ok (.dt (.bool (passB m (toP (ts.zip r))))) M ∧ ap (n + 7) "_law_passes" [.dt (webD m ts), .dt (rwT r)] M = .ok (.dt (.bool (passB m (toP (ts.zip r))))) M := by
  obtain ⟨hb, ht⟩ := web_sub m1 hm hs
  exact ⟨q_passes_on n m ts r M hm (by omega) (pl_sub hs) hl h hb, q_l_passes (n + 5) m ts r M hm (by omega) (pl_sub hs) h⟩
theorem l_runs4 (n m k : Nat) (ts : List (Int × Int)) (M : Mu) (hk : k < M.length) (hm : m ≤ 6) (ht : ts.length ≤ 15) (hs : Pl m ts) (x0 x1 x4 x5 x6 x7 x8 x9 : Option Vl) : ∀ (L : List D) (N : Int),
    ∃ (N' : Int) (rs : List (List Int)), lcL [6] none (qE (R (n + 2)) γ f_law_e1) [x0, x1, some (.hd k), some (.dt (webD m ts)), x4, x5, x6, x7, x8, x9] L (bx M k N) = .ok (rs.map rwT) (bx M k N') ∧ rs.length = L.length ∧ ∀ r ∈ rs, r.length = ts.length ∧ ∀ x ∈ r, x = 1 ∨ x = -1
  | [], N => ⟨N, [], by simp [lcL], rfl, fun x h => by cases h⟩
  | d :: L, N => by
    obtain ⟨N1, r, e, h1, h2⟩ := q_drawn_run n k N m ts M hk hm ht hs
    obtain ⟨N2, rs, g1, g2, g3⟩ := l_runs4 n m k ts M hk hm ht hs x0 x1 x4 x5 x6 x7 x8 x9 L N1
    refine ⟨N2, r :: rs, ?_, by simp [g2], fun s hs => ?_⟩
    · simp [lcL, szl, Fn.start, bindT, E.isNil, y_Band, y_Bor, y_Bnot, y_Bcmp, y_Bchn, y_Bcall, y_Bisi, y_Bbi, y_Bvar, y_Bmt, y_Blen, y_Bbin, y_Bidx, y_Bcst, y_Blc, y_Blcf, kB2, kB1, kN, kNot, kC2, kC1, kH4, kH3, kH2, kH1, kI2, kI1, TL.kTup, kLst, kX2, kX1, kV3, kV2, kV1, kS3, kS2, kS1, kR, kFr, qE, qB, kL, kLf, kLen, kBi, kIs, kM1, kApp2, kApp1, kExt2, kExt1, kPop, kPat1, kE2, kE1, kP, kRg, kIv, kA2, kO2, kA1, kO1, kTr, sAsg, sUnp, sUnpL, z_unpL, sSix3, sSix2, sSix1, sExp, sRet, sRai, sIte, sFor, y_var, y_cst, y_glb, y_bin, y_neg, y_not, y_cmp, y_chn, y_and, y_or, y_ife, y_tup, y_lst, y_idx, y_slc, y_rvs, y_rev, y_lc, y_lcf, y_len, y_bi, y_isi, y_mt, y_app, y_ext, y_pop, y_pat, y_ln, y_lc1, y_lset, kLs, y_lix, kLx1, kLx2, y_upp, kUp, y_edt, y_srk, kSk, srkV, y_sset, kSs, y_ch3, y_Bch3, kT1, kT2, kT3, kT4, y_idh, kIdh, y_lol, kLol, y_zip, kZ1, kZ2_ok, y_mk, kMk, y_lrg, y_lrg2, kLr, kLr1, kLr2, z_gh, z_swp, sSw1, sSw3, sSw4, sSw5, sSw6, y_pn, y_pc, y_rng, y_itv, y_an, y_on, z_nil, z_cons, z_asg, z_unp, z_six, z_exp, z_ret, z_retN, z_ite, z_for, z_whl, z_rai, z_tryB, c8_rt, c8_nx, cM_rt, cM_nx, z_pass, z_brk, z_cont, ev_call d_l_drawn_run, e]
      rw [g1]
      simp
    · rcases List.mem_cons.mp hs with rfl | hs
      · exact ⟨h1, h2⟩
      · exact g3 s hs
theorem l_runs3 (n m k : Nat) (ts : List (Int × Int)) (M : Mu) (hk : k < M.length) (hm : m ≤ 6) (ht : ts.length ≤ 15) (hs : Pl m ts) (x0 x1 x3 x4 x5 x6 x7 x9 : Option Vl) : ∀ (L : List D) (N : Int),
    ∃ (N' : Int) (rs : List (List Int)), lcL [6] none (qE (R (n + 2)) γ f_law_e3) [x0, x1, some (.hd k), x3, x4, x5, x6, x7, some (.dt (webD m ts)), x9] L (bx M k N) = .ok (rs.map rwT) (bx M k N') ∧ rs.length = L.length ∧ ∀ r ∈ rs, r.length = ts.length ∧ ∀ x ∈ r, x = 1 ∨ x = -1
  | [], N => ⟨N, [], by simp [lcL], rfl, fun x h => by cases h⟩
  | d :: L, N => by
    obtain ⟨N1, r, e, h1, h2⟩ := q_drawn_run n k N m ts M hk hm ht hs
    obtain ⟨N2, rs, g1, g2, g3⟩ := l_runs3 n m k ts M hk hm ht hs x0 x1 x3 x4 x5 x6 x7 x9 L N1
    refine ⟨N2, r :: rs, ?_, by simp [g2], fun s hs => ?_⟩
    · simp [lcL, szl, Fn.start, bindT, E.isNil, y_Band, y_Bor, y_Bnot, y_Bcmp, y_Bchn, y_Bcall, y_Bisi, y_Bbi, y_Bvar, y_Bmt, y_Blen, y_Bbin, y_Bidx, y_Bcst, y_Blc, y_Blcf, kB2, kB1, kN, kNot, kC2, kC1, kH4, kH3, kH2, kH1, kI2, kI1, TL.kTup, kLst, kX2, kX1, kV3, kV2, kV1, kS3, kS2, kS1, kR, kFr, qE, qB, kL, kLf, kLen, kBi, kIs, kM1, kApp2, kApp1, kExt2, kExt1, kPop, kPat1, kE2, kE1, kP, kRg, kIv, kA2, kO2, kA1, kO1, kTr, sAsg, sUnp, sUnpL, z_unpL, sSix3, sSix2, sSix1, sExp, sRet, sRai, sIte, sFor, y_var, y_cst, y_glb, y_bin, y_neg, y_not, y_cmp, y_chn, y_and, y_or, y_ife, y_tup, y_lst, y_idx, y_slc, y_rvs, y_rev, y_lc, y_lcf, y_len, y_bi, y_isi, y_mt, y_app, y_ext, y_pop, y_pat, y_ln, y_lc1, y_lset, kLs, y_lix, kLx1, kLx2, y_upp, kUp, y_edt, y_srk, kSk, srkV, y_sset, kSs, y_ch3, y_Bch3, kT1, kT2, kT3, kT4, y_idh, kIdh, y_lol, kLol, y_zip, kZ1, kZ2_ok, y_mk, kMk, y_lrg, y_lrg2, kLr, kLr1, kLr2, z_gh, z_swp, sSw1, sSw3, sSw4, sSw5, sSw6, y_pn, y_pc, y_rng, y_itv, y_an, y_on, z_nil, z_cons, z_asg, z_unp, z_six, z_exp, z_ret, z_retN, z_ite, z_for, z_whl, z_rai, z_tryB, c8_rt, c8_nx, cM_rt, cM_nx, z_pass, z_brk, z_cont, ev_call d_l_drawn_run, e]
      rw [g1]
      simp
    · rcases List.mem_cons.mp hs with rfl | hs
      · exact ⟨h1, h2⟩
      · exact g3 s hs
theorem l_loop2 (n m : Nat) (ts : List (Int × Int)) (M : Mu) (m1 : 1 ≤ m) (hm : m ≤ 6) (hs : ts.Sublist (twos m)) (x0 x1 x2 x4 x5 x6 x7 x8 x9 : Option Vl) (rs : List (List Int)) (hr : ∀ r ∈ rs, r.length = ts.length ∧ ∀ x ∈ r, x = 1 ∨ x = -1) :
    ∃ y5, forL [5] (TL.exec (R (n + 7)) γ 1000 f_law_b2) (rs.map rwT) [x0, x1, x2, some (.dt (webD m ts)), x4, x5, x6, x7, x8, x9] M = .nx [x0, x1, x2, some (.dt (webD m ts)), x4, y5, x6, x7, x8, x9] M := by
  obtain ⟨ρ', μ', h1, y5, h2, h3⟩ := for_mem (μ := M) (i := 5) (body := TL.exec (R (n + 7)) γ 1000 f_law_b2) rwT (fun ρ μ' => ∃ y5, ρ = [x0, x1, x2, some (.dt (webD m ts)), x4, y5, x6, x7, x8, x9] ∧ μ' = M) rs _ ⟨x5, rfl, rfl⟩ (by
    rintro r hr' ρ μ1 ⟨y5, rfl, rfl⟩
    obtain ⟨e1, e2⟩ := l_one n m ts r μ1 m1 hm hs (hr r hr').1 (hr r hr').2
    have e3 := q_l_truth (n + 6) (passB m (toP (ts.zip r))) (passB m (toP (ts.zip r))) μ1
    refine ⟨[x0, x1, x2, some (.dt (webD m ts)), x4, some (.dt (rwT r)), x6, x7, x8, x9], μ1, ?_, _, rfl, rfl⟩
    generalize rwT r = RR at *
    generalize passB m (toP (ts.zip r)) = B at *
    simp [szl, Fn.start, bindT, E.isNil, y_Band, y_Bor, y_Bnot, y_Bcmp, y_Bchn, y_Bcall, y_Bisi, y_Bbi, y_Bvar, y_Bmt, y_Blen, y_Bbin, y_Bidx, y_Bcst, y_Blc, y_Blcf, kB2, kB1, kN, kNot, kC2, kC1, kH4, kH3, kH2, kH1, kI2, kI1, TL.kTup, kLst, kX2, kX1, kV3, kV2, kV1, kS3, kS2, kS1, kR, kFr, qE, qB, kL, kLf, kLen, kBi, kIs, kM1, kApp2, kApp1, kExt2, kExt1, kPop, kPat1, kE2, kE1, kP, kRg, kIv, kA2, kO2, kA1, kO1, kTr, sAsg, sUnp, sUnpL, z_unpL, sSix3, sSix2, sSix1, sExp, sRet, sRai, sIte, sFor, y_var, y_cst, y_glb, y_bin, y_neg, y_not, y_cmp, y_chn, y_and, y_or, y_ife, y_tup, y_lst, y_idx, y_slc, y_rvs, y_rev, y_lc, y_lcf, y_len, y_bi, y_isi, y_mt, y_app, y_ext, y_pop, y_pat, y_ln, y_lc1, y_lset, kLs, y_lix, kLx1, kLx2, y_upp, kUp, y_edt, y_srk, kSk, srkV, y_sset, kSs, y_ch3, y_Bch3, kT1, kT2, kT3, kT4, y_idh, kIdh, y_lol, kLol, y_zip, kZ1, kZ2_ok, y_mk, kMk, y_lrg, y_lrg2, kLr, kLr1, kLr2, z_gh, z_swp, sSw1, sSw3, sSw4, sSw5, sSw6, y_pn, y_pc, y_rng, y_itv, y_an, y_on, z_nil, z_cons, z_asg, z_unp, z_six, z_exp, z_ret, z_retN, z_ite, z_for, z_whl, z_rai, z_tryB, c8_rt, c8_nx, cM_rt, cM_nx, z_pass, z_brk, z_cont, ev_call d_passes_on, ev_call d_l_passes, ev_call d_l_truth, e1, e2, e3])
  subst h2 h3
  exact ⟨y5, h1⟩
theorem l_loop3 (n m : Nat) (ts : List (Int × Int)) (M : Mu) (m1 : 1 ≤ m) (hm : m ≤ 6) (hs : ts.Sublist (twos m)) (x0 x1 x2 x3 x4 x5 x6 x7 x9 : Option Vl) (rs : List (List Int)) (hr : ∀ r ∈ rs, r.length = ts.length ∧ ∀ x ∈ r, x = 1 ∨ x = -1) :
    ∃ y5, forL [5] (TL.exec (R (n + 7)) γ 1000 f_law_b3) (rs.map rwT) [x0, x1, x2, x3, x4, x5, x6, x7, some (.dt (webD m ts)), x9] M = .nx [x0, x1, x2, x3, x4, y5, x6, x7, some (.dt (webD m ts)), x9] M := by
  obtain ⟨ρ', μ', h1, y5, h2, h3⟩ := for_mem (μ := M) (i := 5) (body := TL.exec (R (n + 7)) γ 1000 f_law_b3) rwT (fun ρ μ' => ∃ y5, ρ = [x0, x1, x2, x3, x4, y5, x6, x7, some (.dt (webD m ts)), x9] ∧ μ' = M) rs _ ⟨x5, rfl, rfl⟩ (by
    rintro r hr' ρ μ1 ⟨y5, rfl, rfl⟩
    obtain ⟨e1, e2⟩ := l_one n m ts r μ1 m1 hm hs (hr r hr').1 (hr r hr').2
    have e3 := q_l_truth (n + 6) (passB m (toP (ts.zip r))) (passB m (toP (ts.zip r))) μ1
    refine ⟨[x0, x1, x2, x3, x4, some (.dt (rwT r)), x6, x7, some (.dt (webD m ts)), x9], μ1, ?_, _, rfl, rfl⟩
    generalize rwT r = RR at *
    generalize passB m (toP (ts.zip r)) = B at *
    simp [szl, Fn.start, bindT, E.isNil, y_Band, y_Bor, y_Bnot, y_Bcmp, y_Bchn, y_Bcall, y_Bisi, y_Bbi, y_Bvar, y_Bmt, y_Blen, y_Bbin, y_Bidx, y_Bcst, y_Blc, y_Blcf, kB2, kB1, kN, kNot, kC2, kC1, kH4, kH3, kH2, kH1, kI2, kI1, TL.kTup, kLst, kX2, kX1, kV3, kV2, kV1, kS3, kS2, kS1, kR, kFr, qE, qB, kL, kLf, kLen, kBi, kIs, kM1, kApp2, kApp1, kExt2, kExt1, kPop, kPat1, kE2, kE1, kP, kRg, kIv, kA2, kO2, kA1, kO1, kTr, sAsg, sUnp, sUnpL, z_unpL, sSix3, sSix2, sSix1, sExp, sRet, sRai, sIte, sFor, y_var, y_cst, y_glb, y_bin, y_neg, y_not, y_cmp, y_chn, y_and, y_or, y_ife, y_tup, y_lst, y_idx, y_slc, y_rvs, y_rev, y_lc, y_lcf, y_len, y_bi, y_isi, y_mt, y_app, y_ext, y_pop, y_pat, y_ln, y_lc1, y_lset, kLs, y_lix, kLx1, kLx2, y_upp, kUp, y_edt, y_srk, kSk, srkV, y_sset, kSs, y_ch3, y_Bch3, kT1, kT2, kT3, kT4, y_idh, kIdh, y_lol, kLol, y_zip, kZ1, kZ2_ok, y_mk, kMk, y_lrg, y_lrg2, kLr, kLr1, kLr2, z_gh, z_swp, sSw1, sSw3, sSw4, sSw5, sSw6, y_pn, y_pc, y_rng, y_itv, y_an, y_on, z_nil, z_cons, z_asg, z_unp, z_six, z_exp, z_ret, z_retN, z_ite, z_for, z_whl, z_rai, z_tryB, c8_rt, c8_nx, cM_rt, cM_nx, z_pass, z_brk, z_cont, ev_call d_passes_on, ev_call d_l_passes, ev_call d_l_truth, e1, e2, e3])
  subst h2 h3
  exact ⟨y5, h1⟩
theorem law_b1 (n : Nat) (ns : List Int) (k : Nat) (x2 x3 x4 x5 x6 x7 x8 x9 : Option Vl) (μ : Mu) : ∃ y2 y3 y4 y5 y6 y7 y8 y9, ∃ μ' : Mu, TL.exec (R (n + 7)) γ 1000 f_law_b1 [some (.scr ns), some (.dt (.int k)), x2, x3, x4, x5, x6, x7, x8, x9] μ = .nx [some (.scr ns), some (.dt (.int k)), y2, y3, y4, y5, y6, y7, y8, y9] μ' := by
  obtain ⟨N, hN⟩ := q_box (n + 5) ns k μ
  have hk : μ.length < (μ ++ [none] : Mu).length := by simp
  obtain ⟨N1, m, ts0, e1, m1, m5, hs0⟩ := q_drawn_web (n + 5) μ.length N 5 (μ ++ [none]) hk (by omega) (by omega)
  have e1 : ap (n + 7) "_law_drawn_web" [.hd μ.length, .dt (.int 5)] (bx (μ ++ [none]) μ.length N) = .ok (.dt (webD m ts0)) (bx (μ ++ [none]) μ.length N1) := e1
  have hs : (ts0.take 7).Sublist (twos m) := (List.take_sublist _ _).trans hs0
  have ct : cutD (ts0.map tieD) none (some 7) = (ts0.take 7).map tieD := by
    rw [List.map_take]
    exact cutD_to _ 7
  generalize hts : ts0.take 7 = ts at *
  have t7 : ts.length ≤ 7 := by rw [← hts, List.length_take]; omega
  obtain ⟨hb, hl⟩ := web_sub m1 (by omega) hs
  have hp := pl_sub hs
  have len : (μ ++ [none] : Mu).length = μ.length + 1 := by simp
  generalize hB : (μ ++ [none] : Mu) = B at *
  have e2 := fun M => q_l_runs (n + 6) (.int m) ts M (by omega)
  obtain ⟨N2, rs, e3, r1, r2⟩ := l_runs4 (n + 5) m μ.length ts B hk (by omega) (by omega) hp (some (.scr ns)) (some (.dt (.int k))) (some (.dt (.list ((allR ts.length).map rwT)))) x5 x6 x7 x8 x9 (rangeL 0 4) N1
  have ra : ∀ r ∈ rs ++ (allR ts.length).take 1, r.length = ts.length ∧ ∀ x ∈ r, x = 1 ∨ x = -1 := fun r hr => by
    rcases List.mem_append.mp hr with h | h
    · exact r2 r h
    · exact allR_mem.mp (List.mem_of_mem_take h)
  have r4 : rs.length = 4 := by rw [r1]; simp
  obtain ⟨y5, e4⟩ := l_loop2 n m ts (bx B μ.length N2) m1 (by omega) hs (some (.scr ns)) (some (.dt (.int k))) (some (.hd μ.length)) (some (.dt (.list ((allR ts.length).map rwT)))) x5 x6 x7 x8 x9 _ ra
  have c1 : cutD ((allR ts.length).map rwT) none (some 1) = ((allR ts.length).take 1).map rwT := by
    rw [List.map_take]
    exact cutD_to _ 1
  have a1 := bn_addl (rs.map rwT) (((allR ts.length).take 1).map rwT) (szle (by simp; omega))
  rw [← List.map_append] at a1
  have all : (allR ts.length).length ≤ 128 := by
    rw [allR_len]
    exact Nat.le_trans (Nat.pow_le_pow_right (by omega) t7) (by decide)
  have hz : ¬ sizeLine < (allR ts.length).length := szn (by omega)
  have hc : ∀ ρ : Ro, ∀ M : Mu, ∀ y5 y6 y7 y8 y9, ρ = [some (.scr ns), some (.dt (.int k)), some (.hd μ.length), some (.dt (webD m ts)), some (.dt (.list ((allR ts.length).map rwT))), y5, y6, y7, y8, y9] → lcL [5] (some (qB (R (n + 7)) γ f_law_c1)) (qE (R (n + 7)) γ f_law_e2) ρ ((allR ts.length).map rwT) M = .ok (((allR ts.length).filter fun r => passB m (toP (ts.zip r))).map rwT) M := by
    rintro ρ M y5 y6 y7 y8 y9 rfl
    refine lcfm rwT _ _ _ fun r hr => ⟨?_, fun _ => ?_⟩
    · obtain ⟨_, e⟩ := l_one n m ts r M m1 (by omega) hs (allR_mem.mp hr).1 (allR_mem.mp hr).2
      generalize rwT r = RR at *
      simp [szl, Fn.start, bindT, E.isNil, y_Band, y_Bor, y_Bnot, y_Bcmp, y_Bchn, y_Bcall, y_Bisi, y_Bbi, y_Bvar, y_Bmt, y_Blen, y_Bbin, y_Bidx, y_Bcst, y_Blc, y_Blcf, kB2, kB1, kN, kNot, kC2, kC1, kH4, kH3, kH2, kH1, kI2, kI1, TL.kTup, kLst, kX2, kX1, kV3, kV2, kV1, kS3, kS2, kS1, kR, kFr, qE, qB, kL, kLf, kLen, kBi, kIs, kM1, kApp2, kApp1, kExt2, kExt1, kPop, kPat1, kE2, kE1, kP, kRg, kIv, kA2, kO2, kA1, kO1, kTr, sAsg, sUnp, sUnpL, z_unpL, sSix3, sSix2, sSix1, sExp, sRet, sRai, sIte, sFor, y_var, y_cst, y_glb, y_bin, y_neg, y_not, y_cmp, y_chn, y_and, y_or, y_ife, y_tup, y_lst, y_idx, y_slc, y_rvs, y_rev, y_lc, y_lcf, y_len, y_bi, y_isi, y_mt, y_app, y_ext, y_pop, y_pat, y_ln, y_lc1, y_lset, kLs, y_lix, kLx1, kLx2, y_upp, kUp, y_edt, y_srk, kSk, srkV, y_sset, kSs, y_ch3, y_Bch3, kT1, kT2, kT3, kT4, y_idh, kIdh, y_lol, kLol, y_zip, kZ1, kZ2_ok, y_mk, kMk, y_lrg, y_lrg2, kLr, kLr1, kLr2, z_gh, z_swp, sSw1, sSw3, sSw4, sSw5, sSw6, y_pn, y_pc, y_rng, y_itv, y_an, y_on, z_nil, z_cons, z_asg, z_unp, z_six, z_exp, z_ret, z_retN, z_ite, z_for, z_whl, z_rai, z_tryB, c8_rt, c8_nx, cM_rt, cM_nx, z_pass, z_brk, z_cont, ev_call d_l_passes, e]
    · generalize rwT r = RR at *
      simp [szl, Fn.start, bindT, E.isNil, y_Band, y_Bor, y_Bnot, y_Bcmp, y_Bchn, y_Bcall, y_Bisi, y_Bbi, y_Bvar, y_Bmt, y_Blen, y_Bbin, y_Bidx, y_Bcst, y_Blc, y_Blcf, kB2, kB1, kN, kNot, kC2, kC1, kH4, kH3, kH2, kH1, kI2, kI1, TL.kTup, kLst, kX2, kX1, kV3, kV2, kV1, kS3, kS2, kS1, kR, kFr, qE, qB, kL, kLf, kLen, kBi, kIs, kM1, kApp2, kApp1, kExt2, kExt1, kPop, kPat1, kE2, kE1, kP, kRg, kIv, kA2, kO2, kA1, kO1, kTr, sAsg, sUnp, sUnpL, z_unpL, sSix3, sSix2, sSix1, sExp, sRet, sRai, sIte, sFor, y_var, y_cst, y_glb, y_bin, y_neg, y_not, y_cmp, y_chn, y_and, y_or, y_ife, y_tup, y_lst, y_idx, y_slc, y_rvs, y_rev, y_lc, y_lcf, y_len, y_bi, y_isi, y_mt, y_app, y_ext, y_pop, y_pat, y_ln, y_lc1, y_lset, kLs, y_lix, kLx1, kLx2, y_upp, kUp, y_edt, y_srk, kSk, srkV, y_sset, kSs, y_ch3, y_Bch3, kT1, kT2, kT3, kT4, y_idh, kIdh, y_lol, kLol, y_zip, kZ1, kZ2_ok, y_mk, kMk, y_lrg, y_lrg2, kLr, kLr1, kLr2, z_gh, z_swp, sSw1, sSw3, sSw4, sSw5, sSw6, y_pn, y_pc, y_rng, y_itv, y_an, y_on, z_nil, z_cons, z_asg, z_unp, z_six, z_exp, z_ret, z_retN, z_ite, z_for, z_whl, z_rai, z_tryB, c8_rt, c8_nx, cM_rt, cM_nx, z_pass, z_brk, z_cont]
  have fl : ((allR ts.length).filter fun r => passB m (toP (ts.zip r))).length ≤ (allR ts.length).length := List.length_filter_le _ _
  have a2 := bn_addl (((allR ts.length).filter fun r => passB m (toP (ts.zip r))).map rwT) [.none] (szle (by simp; omega))
  have hh : atI (((allR ts.length).filter fun r => passB m (toP (ts.zip r))).map rwT ++ [.none]) 0 = some (oR (passF m ts)) := by
    unfold passF
    rw [← filter_head]
    cases (allR ts.length).filter fun r => passB m (toP (ts.zip r)) with
    | nil => rfl
    | cons a l => exact at_0 _ _
  have e5 := q_first_passing (n + 1) m ts (bx B μ.length N2) (by omega) (by omega) hp hb
  have rp := rp_oR (passF_ok (m := m) (ts := ts) (by omega))
  have t2 := q_takeB (n + 6) μ.length N2 5 B hk (by omega) (by omega)
  have p0 : 0 ≤ N2 % 5 := Int.emod_nonneg _ (by omega)
  have p1 : N2 % 5 < 5 := Int.emod_lt_of_pos _ (by omega)
  obtain ⟨j, hj⟩ := Int.eq_ofNat_of_zero_le p0
  rw [hj] at t2
  generalize N2 / 5 = N3 at *
  have e6 := q_l_twos (n + 6) 6 (bx B μ.length N2) (by omega)
  have c2 : cutD ((twos 6).map tieD) none (some (11 + (j : Int))) = ((twos 6).take (11 + j)).map tieD := by
    rw [List.map_take]
    exact cutD_to _ (11 + j)
  have hs6 : ((twos 6).take (11 + j)).Sublist (twos 6) := List.take_sublist _ _
  generalize hU : (twos 6).take (11 + j) = us at *
  obtain ⟨hb6, hl6⟩ := web_sub (by omega) (by omega) hs6
  obtain ⟨N4, qs, e7, q1, q2⟩ := l_runs3 (n + 5) 6 μ.length us B hk (by omega) (by omega) (pl_sub hs6) (some (.scr ns)) (some (.dt (.int k))) (some (.dt (webD m ts))) (some (.dt (.list ((allR ts.length).map rwT)))) y5 x6 (some (.dt (.list (((allR ts.length).filter fun r => passB m (toP (ts.zip r))).map rwT ++ [.none])))) x9 (rangeL 0 3) N3
  obtain ⟨z5, e8⟩ := l_loop3 n 6 us (bx B μ.length N4) (by omega) (by omega) hs6 (some (.scr ns)) (some (.dt (.int k))) (some (.hd μ.length)) (some (.dt (webD m ts))) (some (.dt (.list ((allR ts.length).map rwT)))) y5 x6 (some (.dt (.list (((allR ts.length).filter fun r => passB m (toP (ts.zip r))).map rwT ++ [.none])))) x9 qs q2
  refine ⟨some (.hd μ.length), some (.dt (webD m ts)), some (.dt (.list ((allR ts.length).map rwT))), z5, x6, some (.dt (.list (((allR ts.length).filter fun r => passB m (toP (ts.zip r))).map rwT ++ [.none]))), some (.dt (webD (6 : Nat) us)), x9, bx B μ.length N4, ?_⟩
  · have bn : μ ++ [some (.lst [.int N])] = bx B μ.length N := by rw [← hB]; exact bx_new
    have r40 : rngF [.int 4] = some (rangeL 0 4) := rg_1 _ (by omega)
    have r30 : rngF [.int 3] = some (rangeL 0 3) := rg_1 _ (by omega)
    have z4 : ¬ sizeLine < 4 := szn (by omega)
    have z3 : ¬ sizeLine < 3 := szn (by omega)
    have web6 : webD ((6 : Nat) : Int) us = .tuple [.int 6, .tuple (us.map tieD)] := rfl
    rw [web6] at e7 e8 ⊢
    have tw6 : ap (n + 7) "_law_twos" [.dt (.int 6)] (bx B μ.length N2) = .ok (.dt (.list ((twos 6).map tieD))) (bx B μ.length N2) := e6
    have hza : ¬ sizeLine < ((allR ts.length).map rwT).length := by rw [List.length_map]; exact hz
    generalize (rs ++ (allR ts.length).take 1).map rwT = RA at *
    generalize ((allR ts.length).filter fun r => passB m (toP (ts.zip r))).map rwT = G at *
    generalize ((allR ts.length).take 1).map rwT = A1 at *
    generalize (allR ts.length).map rwT = A at *
    generalize (twos 6).map tieD = TW at *
    simp [szl, Fn.start, bindT, E.isNil, y_Band, y_Bor, y_Bnot, y_Bcmp, y_Bchn, y_Bcall, y_Bisi, y_Bbi, y_Bvar, y_Bmt, y_Blen, y_Bbin, y_Bidx, y_Bcst, y_Blc, y_Blcf, kB2, kB1, kN, kNot, kC2, kC1, kH4, kH3, kH2, kH1, kI2, kI1, TL.kTup, kLst, kX2, kX1, kV3, kV2, kV1, kS3, kS2, kS1, kR, kFr, qE, qB, kL, kLf, kLen, kBi, kIs, kM1, kApp2, kApp1, kExt2, kExt1, kPop, kPat1, kE2, kE1, kP, kRg, kIv, kA2, kO2, kA1, kO1, kTr, sAsg, sUnp, sUnpL, z_unpL, sSix3, sSix2, sSix1, sExp, sRet, sRai, sIte, sFor, y_var, y_cst, y_glb, y_bin, y_neg, y_not, y_cmp, y_chn, y_and, y_or, y_ife, y_tup, y_lst, y_idx, y_slc, y_rvs, y_rev, y_lc, y_lcf, y_len, y_bi, y_isi, y_mt, y_app, y_ext, y_pop, y_pat, y_ln, y_lc1, y_lset, kLs, y_lix, kLx1, kLx2, y_upp, kUp, y_edt, y_srk, kSk, srkV, y_sset, kSs, y_ch3, y_Bch3, kT1, kT2, kT3, kT4, y_idh, kIdh, y_lol, kLol, y_zip, kZ1, kZ2_ok, y_mk, kMk, y_lrg, y_lrg2, kLr, kLr1, kLr2, z_gh, z_swp, sSw1, sSw3, sSw4, sSw5, sSw6, y_pn, y_pc, y_rng, y_itv, y_an, y_on, z_nil, z_cons, z_asg, z_unp, z_six, z_exp, z_ret, z_retN, z_ite, z_for, z_whl, z_rai, z_tryB, c8_rt, c8_nx, cM_rt, cM_nx, z_pass, z_brk, z_cont, ev_call d_l_box, ev_call d_l_drawn_web, ev_call d_l_runs, hN, bn, e1, ct, e2, r40, z4]
    rw [e3]
    simp [szl, Fn.start, bindT, E.isNil, y_Band, y_Bor, y_Bnot, y_Bcmp, y_Bchn, y_Bcall, y_Bisi, y_Bbi, y_Bvar, y_Bmt, y_Blen, y_Bbin, y_Bidx, y_Bcst, y_Blc, y_Blcf, kB2, kB1, kN, kNot, kC2, kC1, kH4, kH3, kH2, kH1, kI2, kI1, TL.kTup, kLst, kX2, kX1, kV3, kV2, kV1, kS3, kS2, kS1, kR, kFr, qE, qB, kL, kLf, kLen, kBi, kIs, kM1, kApp2, kApp1, kExt2, kExt1, kPop, kPat1, kE2, kE1, kP, kRg, kIv, kA2, kO2, kA1, kO1, kTr, sAsg, sUnp, sUnpL, z_unpL, sSix3, sSix2, sSix1, sExp, sRet, sRai, sIte, sFor, y_var, y_cst, y_glb, y_bin, y_neg, y_not, y_cmp, y_chn, y_and, y_or, y_ife, y_tup, y_lst, y_idx, y_slc, y_rvs, y_rev, y_lc, y_lcf, y_len, y_bi, y_isi, y_mt, y_app, y_ext, y_pop, y_pat, y_ln, y_lc1, y_lset, kLs, y_lix, kLx1, kLx2, y_upp, kUp, y_edt, y_srk, kSk, srkV, y_sset, kSs, y_ch3, y_Bch3, kT1, kT2, kT3, kT4, y_idh, kIdh, y_lol, kLol, y_zip, kZ1, kZ2_ok, y_mk, kMk, y_lrg, y_lrg2, kLr, kLr1, kLr2, z_gh, z_swp, sSw1, sSw3, sSw4, sSw5, sSw6, y_pn, y_pc, y_rng, y_itv, y_an, y_on, z_nil, z_cons, z_asg, z_unp, z_six, z_exp, z_ret, z_retN, z_ite, z_for, z_whl, z_rai, z_tryB, c8_rt, c8_nx, cM_rt, cM_nx, z_pass, z_brk, z_cont, c1, a1]
    rw [e4]
    simp [szl, Fn.start, bindT, E.isNil, y_Band, y_Bor, y_Bnot, y_Bcmp, y_Bchn, y_Bcall, y_Bisi, y_Bbi, y_Bvar, y_Bmt, y_Blen, y_Bbin, y_Bidx, y_Bcst, y_Blc, y_Blcf, kB2, kB1, kN, kNot, kC2, kC1, kH4, kH3, kH2, kH1, kI2, kI1, TL.kTup, kLst, kX2, kX1, kV3, kV2, kV1, kS3, kS2, kS1, kR, kFr, qE, qB, kL, kLf, kLen, kBi, kIs, kM1, kApp2, kApp1, kExt2, kExt1, kPop, kPat1, kE2, kE1, kP, kRg, kIv, kA2, kO2, kA1, kO1, kTr, sAsg, sUnp, sUnpL, z_unpL, sSix3, sSix2, sSix1, sExp, sRet, sRai, sIte, sFor, y_var, y_cst, y_glb, y_bin, y_neg, y_not, y_cmp, y_chn, y_and, y_or, y_ife, y_tup, y_lst, y_idx, y_slc, y_rvs, y_rev, y_lc, y_lcf, y_len, y_bi, y_isi, y_mt, y_app, y_ext, y_pop, y_pat, y_ln, y_lc1, y_lset, kLs, y_lix, kLx1, kLx2, y_upp, kUp, y_edt, y_srk, kSk, srkV, y_sset, kSs, y_ch3, y_Bch3, kT1, kT2, kT3, kT4, y_idh, kIdh, y_lol, kLol, y_zip, kZ1, kZ2_ok, y_mk, kMk, y_lrg, y_lrg2, kLr, kLr1, kLr2, z_gh, z_swp, sSw1, sSw3, sSw4, sSw5, sSw6, y_pn, y_pc, y_rng, y_itv, y_an, y_on, z_nil, z_cons, z_asg, z_unp, z_six, z_exp, z_ret, z_retN, z_ite, z_for, z_whl, z_rai, z_tryB, c8_rt, c8_nx, cM_rt, cM_nx, z_pass, z_brk, z_cont, hza, hc _ _ _ _ _ _ _ rfl, a2, ev_call d_first_passing, e5, hh, rp, ev_call d_l_twos, tw6, ev_call d_l_take, t2, c2, r30, z3]
    rw [e7]
    simp [szl, Fn.start, bindT, E.isNil, y_Band, y_Bor, y_Bnot, y_Bcmp, y_Bchn, y_Bcall, y_Bisi, y_Bbi, y_Bvar, y_Bmt, y_Blen, y_Bbin, y_Bidx, y_Bcst, y_Blc, y_Blcf, kB2, kB1, kN, kNot, kC2, kC1, kH4, kH3, kH2, kH1, kI2, kI1, TL.kTup, kLst, kX2, kX1, kV3, kV2, kV1, kS3, kS2, kS1, kR, kFr, qE, qB, kL, kLf, kLen, kBi, kIs, kM1, kApp2, kApp1, kExt2, kExt1, kPop, kPat1, kE2, kE1, kP, kRg, kIv, kA2, kO2, kA1, kO1, kTr, sAsg, sUnp, sUnpL, z_unpL, sSix3, sSix2, sSix1, sExp, sRet, sRai, sIte, sFor, y_var, y_cst, y_glb, y_bin, y_neg, y_not, y_cmp, y_chn, y_and, y_or, y_ife, y_tup, y_lst, y_idx, y_slc, y_rvs, y_rev, y_lc, y_lcf, y_len, y_bi, y_isi, y_mt, y_app, y_ext, y_pop, y_pat, y_ln, y_lc1, y_lset, kLs, y_lix, kLx1, kLx2, y_upp, kUp, y_edt, y_srk, kSk, srkV, y_sset, kSs, y_ch3, y_Bch3, kT1, kT2, kT3, kT4, y_idh, kIdh, y_lol, kLol, y_zip, kZ1, kZ2_ok, y_mk, kMk, y_lrg, y_lrg2, kLr, kLr1, kLr2, z_gh, z_swp, sSw1, sSw3, sSw4, sSw5, sSw6, y_pn, y_pc, y_rng, y_itv, y_an, y_on, z_nil, z_cons, z_asg, z_unp, z_six, z_exp, z_ret, z_retN, z_ite, z_for, z_whl, z_rai, z_tryB, c8_rt, c8_nx, cM_rt, cM_nx, z_pass, z_brk, z_cont]
    rw [e8]
    simp [szl, Fn.start, bindT, E.isNil, y_Band, y_Bor, y_Bnot, y_Bcmp, y_Bchn, y_Bcall, y_Bisi, y_Bbi, y_Bvar, y_Bmt, y_Blen, y_Bbin, y_Bidx, y_Bcst, y_Blc, y_Blcf, kB2, kB1, kN, kNot, kC2, kC1, kH4, kH3, kH2, kH1, kI2, kI1, TL.kTup, kLst, kX2, kX1, kV3, kV2, kV1, kS3, kS2, kS1, kR, kFr, qE, qB, kL, kLf, kLen, kBi, kIs, kM1, kApp2, kApp1, kExt2, kExt1, kPop, kPat1, kE2, kE1, kP, kRg, kIv, kA2, kO2, kA1, kO1, kTr, sAsg, sUnp, sUnpL, z_unpL, sSix3, sSix2, sSix1, sExp, sRet, sRai, sIte, sFor, y_var, y_cst, y_glb, y_bin, y_neg, y_not, y_cmp, y_chn, y_and, y_or, y_ife, y_tup, y_lst, y_idx, y_slc, y_rvs, y_rev, y_lc, y_lcf, y_len, y_bi, y_isi, y_mt, y_app, y_ext, y_pop, y_pat, y_ln, y_lc1, y_lset, kLs, y_lix, kLx1, kLx2, y_upp, kUp, y_edt, y_srk, kSk, srkV, y_sset, kSs, y_ch3, y_Bch3, kT1, kT2, kT3, kT4, y_idh, kIdh, y_lol, kLol, y_zip, kZ1, kZ2_ok, y_mk, kMk, y_lrg, y_lrg2, kLr, kLr1, kLr2, z_gh, z_swp, sSw1, sSw3, sSw4, sSw5, sSw6, y_pn, y_pc, y_rng, y_itv, y_an, y_on, z_nil, z_cons, z_asg, z_unp, z_six, z_exp, z_ret, z_retN, z_ite, z_for, z_whl, z_rai, z_tryB, c8_rt, c8_nx, cM_rt, cM_nx, z_pass, z_brk, z_cont]
theorem mulR (k : Nat) (h1 : 1 ≤ k) (h2 : k ≤ 1000) : binF .Mult (.tuple [.int (-1)]) (.int (k : Int)) = some (.dt (rwT (List.replicate k (-1)))) := by
  have e : (List.replicate (k : Int).toNat [PyData.int (-1)]).flatten = (List.replicate k (-1 : Int)).map PyData.int := by
    rw [Int.toNat_natCast]
    clear h1 h2
    induction k with
    | zero => rfl
    | succ k ih => rw [List.replicate_succ, List.flatten_cons, ih, List.replicate_succ, List.map_cons]; rfl
  unfold rwT
  rw [← e]
  exact if_pos ⟨by omega, by omega, by simp, rfl⟩
theorem law_run : ∀ (ns : List Int), ns.length ≤ 63 → (∀ z ∈ ns, Builtin.Int.intBits z ≤ 1048576) → ∃ μ, runFn (run (lookF tab) (lookG gam) 1000 10) (lookG gam) 1000 f_law [.scr ns] [] = .ok (.dt (.bool true)) μ := by
  intro ns hn _
  obtain ⟨q, hr⟩ : ∃ q, rngF [.int (if 1 < (if (2 : Int) < ns.length then 2 else (ns.length : Int)) then (if (2 : Int) < ns.length then 2 else (ns.length : Int)) else 1)] = some (rangeL 0 q) := ⟨_, rg_1 _ (by split <;> split <;> omega)⟩
  obtain ⟨ρ', μ', h1, x1, x2, x3, x4, x5, x6, x7, x8, x9, h2⟩ := for_rng (i := 1) (lo := 0) (body := TL.exec (R 10) γ 1000 f_law_b1) (fun ρ μ' => ∃ x1 x2 x3 x4 x5 x6 x7 x8 x9, ρ = [some (.scr ns), x1, x2, x3, x4, x5, x6, x7, x8, x9]) q [some (.scr ns), none, none, none, none, none, none, none, none, none] [] ⟨_, _, _, _, _, _, _, _, _, rfl⟩ (by
    rintro j hj ρ μ1 ⟨x1, x2, x3, x4, x5, x6, x7, x8, x9, rfl⟩
    obtain ⟨y2, y3, y4, y5, y6, y7, y8, y9, μ', e⟩ := law_b1 3 ns j x2 x3 x4 x5 x6 x7 x8 x9 μ1
    exact ⟨[some (.scr ns), some (.dt (.int (0 + (j : Int)))), y2, y3, y4, y5, y6, y7, y8, y9], μ', by rw [Int.zero_add]; exact e, _, _, _, _, _, _, _, _, _, rfl⟩)
  subst h2
  refine ⟨μ'.take 0, ?_⟩
  have full : (twos 6).Sublist (twos 6) := List.Sublist.refl _
  have e1 := q_l_twos 9 6 μ' (by omega)
  obtain ⟨a1, _⟩ := l_one 3 6 (twos 6) (List.replicate 13 (-1) ++ [1, -1]) μ' (by omega) (by omega) full (by decide +kernel) (by decide +kernel)
  obtain ⟨a2, _⟩ := l_one 3 6 (twos 6) (List.replicate 14 (-1) ++ [1]) μ' (by omega) (by omega) full (by decide +kernel) (by decide +kernel)
  have p1 : passB 6 (toP ((twos 6).zip (List.replicate 13 (-1) ++ [1, -1]))) = false := by decide +kernel
  have p2 : passB 6 (toP ((twos 6).zip (List.replicate 14 (-1) ++ [1]))) = true := by decide +kernel
  rw [p1] at a1
  rw [p2] at a2
  have hs : ((twos 6).take 11).Sublist (twos 6) := List.take_sublist _ _
  obtain ⟨hb, hl⟩ := web_sub (by omega) (by omega) hs
  have e3 := q_first_passing 4 6 ((twos 6).take 11) μ' (by omega) hl (pl_sub hs) hb
  have p3 : passF 6 ((twos 6).take 11) = some (List.replicate 11 (-1)) := passF_head (ts := (twos 6).take 11) (by decide +kernel)
  rw [p3] at e3
  have c3 : cutD ((twos 6).map tieD) none (some 11) = ((twos 6).take 11).map tieD := by
    rw [List.map_take]
    exact cutD_to _ 11
  have m13 := mulR 13 (by omega) (by omega)
  have m14 := mulR 14 (by omega) (by omega)
  have m11 := mulR 11 (by omega) (by omega)
  have b1 : binF .Add (rwT (List.replicate 13 (-1))) (.tuple [.int 1, .int (-1)]) = some (.dt (rwT (List.replicate 13 (-1) ++ [1, -1]))) := by
    unfold rwT
    rw [bn_addt _ _ (szle (by simp))]
    simp
  have b2 : binF .Add (rwT (List.replicate 14 (-1))) (.tuple [.int 1]) = some (.dt (rwT (List.replicate 14 (-1) ++ [1]))) := by
    unfold rwT
    rw [bn_addt _ _ (szle (by simp))]
    simp
  have i1 : cmpF .IsNot (.bool false) (.bool false) = some false := rfl
  have i2 : cmpF .IsNot (.bool true) (.bool true) = some false := rfl
  have rp : biF .repr [rwT (List.replicate 11 (-1))] = some (.dt (.str (rwT (List.replicate 11 (-1))).shown)) := rp_oR (o := some (List.replicate 11 (-1))) fun r h => by
    cases h
    exact ⟨by simp, fun x hx => .inr (List.eq_of_mem_replicate hx)⟩
  have w6 : webD ((6 : Nat) : Int) (twos 6) = .tuple [.int 6, .tuple ((twos 6).map tieD)] := rfl
  have w11 : webD ((6 : Nat) : Int) ((twos 6).take 11) = .tuple [.int 6, .tuple (((twos 6).take 11).map tieD)] := rfl
  rw [w6] at a1 a2
  rw [w11] at e3
  have e1 : ap 10 "_law_twos" [.dt (.int 6)] μ' = .ok (.dt (.list ((twos 6).map tieD))) μ' := e1
  have m13 : binF .Mult (.tuple [.int (-1)]) (.int 13) = some (.dt (rwT (List.replicate 13 (-1)))) := m13
  have m14 : binF .Mult (.tuple [.int (-1)]) (.int 14) = some (.dt (rwT (List.replicate 14 (-1)))) := m14
  have m11 : binF .Mult (.tuple [.int (-1)]) (.int 11) = some (.dt (rwT (List.replicate 11 (-1)))) := m11
  show runFn (R 10) γ 1000 f_law [.scr ns] [] = _
  rw [runFn_ok rfl]
  simp only [oR] at e3
  generalize rwT (List.replicate 13 (-1) ++ [1, -1]) = R1 at *
  generalize rwT (List.replicate 14 (-1) ++ [1]) = R2 at *
  generalize rwT (List.replicate 11 (-1)) = R3 at *
  generalize rwT (List.replicate 13 (-1)) = R4 at *
  generalize rwT (List.replicate 14 (-1)) = R5 at *
  generalize ((twos 6).take 11).map tieD = T11 at *
  generalize (twos 6).map tieD = TW at *
  simp [f_law, szl, Fn.start, bindT, E.isNil, y_Band, y_Bor, y_Bnot, y_Bcmp, y_Bchn, y_Bcall, y_Bisi, y_Bbi, y_Bvar, y_Bmt, y_Blen, y_Bbin, y_Bidx, y_Bcst, y_Blc, y_Blcf, kB2, kB1, kN, kNot, kC2, kC1, kH4, kH3, kH2, kH1, kI2, kI1, TL.kTup, kLst, kX2, kX1, kV3, kV2, kV1, kS3, kS2, kS1, kR, kFr, qE, qB, kL, kLf, kLen, kBi, kIs, kM1, kApp2, kApp1, kExt2, kExt1, kPop, kPat1, kE2, kE1, kP, kRg, kIv, kA2, kO2, kA1, kO1, kTr, sAsg, sUnp, sUnpL, z_unpL, sSix3, sSix2, sSix1, sExp, sRet, sRai, sIte, sFor, y_var, y_cst, y_glb, y_bin, y_neg, y_not, y_cmp, y_chn, y_and, y_or, y_ife, y_tup, y_lst, y_idx, y_slc, y_rvs, y_rev, y_lc, y_lcf, y_len, y_bi, y_isi, y_mt, y_app, y_ext, y_pop, y_pat, y_ln, y_lc1, y_lset, kLs, y_lix, kLx1, kLx2, y_upp, kUp, y_edt, y_srk, kSk, srkV, y_sset, kSs, y_ch3, y_Bch3, kT1, kT2, kT3, kT4, y_idh, kIdh, y_lol, kLol, y_zip, kZ1, kZ2_ok, y_mk, kMk, y_lrg, y_lrg2, kLr, kLr1, kLr2, z_gh, z_swp, sSw1, sSw3, sSw4, sSw5, sSw6, y_pn, y_pc, y_rng, y_itv, y_an, y_on, z_nil, z_cons, z_asg, z_unp, z_six, z_exp, z_ret, z_retN, z_ite, z_for, z_whl, z_rai, z_tryB, c8_rt, c8_nx, cM_rt, cM_nx, z_pass, z_brk, z_cont, hr, h1, ev_call d_l_twos, ev_call d_passes_on, ev_call d_first_passing, e1, m13, m14, m11, b1, b2, a1, a2, i1, i2, c3, e3, rp]
end K33
open PySem PySem.W PyProof.Rows
set_option maxRecDepth 100000 in
set_option maxHeartbeats 0 in
theorem PySem.Challenge.cw_turnletters_k33_runs_that_pass_on_holds : PySem.Challenge.rw_turnletters_k33_runs_that_pass_on.Holds := by
  w_on; o_law; k_head; (case hw => w_witness2)
  k_fill
  refine TL.walk_G (l := PySem.Challenge.rw_turnletters_k33_runs_that_pass_on) (n := 63) 10 1000 (x := "_law_script") (γ := TL.lookG K33.gam) (Δ := TL.lookF K33.tab) (xs := K33.xs) (fn := K33.f_law) rfl (by decide) rfl ⟨rfl, by decide, by decide⟩ (fun w h Y => PySem.W.kIn_of Y) ?T ?tb rfl rfl K33.law_run
  case tb =>
    intro w loose mean mg mb h T X
    refine' TL.tab_no (TL.tabs_none ?a)
    (case a => k_is)
  case T =>
    intro w mg h KX G
    refine' K33.top_mk KX G ?tlh0 ?tlh1 ?tlh2 ?tlh3 ?tlh4 ?tlh5 ?tlh6 ?tlh7 ?tlh8 ?tlh9 ?tlh10 ?tlh11 ?tlh12 ?tlh13 ?tlh14 ?tlh15 ?tlh16 ?tlh17 ?tlh18 ?tlh19 ?tlh20 ?tlh21 ?tlh22 ?tlh23 ?tlh24 ?tlg0 ?tlx0 ?tlx1 ?tlb
    (case tlh0 => (refine' TL.def_mk ?a ?l ?c ?k; (case a => k_is); (case l => k_is); (case c => k_is); (case k => k_is)))
    (case tlh1 => (refine' TL.def_mk ?a ?l ?c ?k; (case a => k_is); (case l => k_is); (case c => k_is); (case k => k_is)))
    (case tlh2 => (refine' TL.def_mk ?a ?l ?c ?k; (case a => k_is); (case l => k_is); (case c => k_is); (case k => k_is)))
    (case tlh3 => (refine' TL.def_mk ?a ?l ?c ?k; (case a => k_is); (case l => k_is); (case c => k_is); (case k => k_is)))
    (case tlh4 => (refine' TL.def_mk ?a ?l ?c ?k; (case a => k_is); (case l => k_is); (case c => k_is); (case k => k_is)))
    (case tlh5 => (refine' TL.def_mk ?a ?l ?c ?k; (case a => k_is); (case l => k_is); (case c => k_is); (case k => k_is)))
    (case tlh6 => (refine' TL.def_mk ?a ?l ?c ?k; (case a => k_is); (case l => k_is); (case c => k_is); (case k => k_is)))
    (case tlh7 => (refine' TL.def_mk ?a ?l ?c ?k; (case a => k_is); (case l => k_is); (case c => k_is); (case k => k_is)))
    (case tlh8 => (refine' TL.def_mk ?a ?l ?c ?k; (case a => k_is); (case l => k_is); (case c => k_is); (case k => k_is)))
    (case tlh9 => (refine' TL.def_mk ?a ?l ?c ?k; (case a => k_is); (case l => k_is); (case c => k_is); (case k => k_is)))
    (case tlh10 => (refine' TL.def_mk ?a ?l ?c ?k; (case a => k_is); (case l => k_is); (case c => k_is); (case k => k_is)))
    (case tlh11 => (refine' TL.def_mk ?a ?l ?c ?k; (case a => k_is); (case l => k_is); (case c => k_is); (case k => k_is)))
    (case tlh12 => (refine' TL.def_mk ?a ?l ?c ?k; (case a => k_is); (case l => k_is); (case c => k_is); (case k => k_is)))
    (case tlh13 => (refine' TL.def_mk ?a ?l ?c ?k; (case a => k_is); (case l => k_is); (case c => k_is); (case k => k_is)))
    (case tlh14 => (refine' TL.def_mk ?a ?l ?c ?k; (case a => k_is); (case l => k_is); (case c => k_is); (case k => k_is)))
    (case tlh15 => (refine' TL.def_mk ?a ?l ?c ?k; (case a => k_is); (case l => k_is); (case c => k_is); (case k => k_is)))
    (case tlh16 => (refine' TL.def_mk ?a ?l ?c ?k; (case a => k_is); (case l => k_is); (case c => k_is); (case k => k_is)))
    (case tlh17 => (refine' TL.def_mk ?a ?l ?c ?k; (case a => k_is); (case l => k_is); (case c => k_is); (case k => k_is)))
    (case tlh18 => (refine' TL.def_mk ?a ?l ?c ?k; (case a => k_is); (case l => k_is); (case c => k_is); (case k => k_is)))
    (case tlh19 => (refine' TL.def_mk ?a ?l ?c ?k; (case a => k_is); (case l => k_is); (case c => k_is); (case k => k_is)))
    (case tlh20 => (refine' TL.def_mk ?a ?l ?c ?k; (case a => k_is); (case l => k_is); (case c => k_is); (case k => k_is)))
    (case tlh21 => (refine' TL.def_mk ?a ?l ?c ?k; (case a => k_is); (case l => k_is); (case c => k_is); (case k => k_is)))
    (case tlh22 => (refine' TL.def_mk ?a ?l ?c ?k; (case a => k_is); (case l => k_is); (case c => k_is); (case k => k_is)))
    (case tlh23 => (refine' TL.def_mk ?a ?l ?c ?k; (case a => k_is); (case l => k_is); (case c => k_is); (case k => k_is)))
    (case tlh24 => (refine' TL.def_mk ?a ?l ?c ?k; (case a => k_is); (case l => k_is); (case c => k_is); (case k => k_is)))
    (case tlg0 => (refine' TL.glb_int ?a; (case a => k_is)))
    (case tlx0 => (refine' TL.exc_mk ?a ?x ?k ?b ?t; (case a => k_is); (case x => k_exc); (case k => k_is); (case b => k_is); (case t => k_is)))
    (case tlx1 => (refine' TL.exc_mk ?a ?x ?k ?b ?t; (case a => k_is); (case x => k_exc); (case k => k_is); (case b => k_is); (case t => k_is)))
    (case tlb => (refine' TL.blt_of ?b0 ?b1 ?b2 ?b3 ?b4 ?b5 ?b6 ?b7 ?b8 ?b9 ?b10 ?b11 ?b12 ?b13 ?b14 ?b15 ?b16 ?b17 ?b18 ?b19 ?b20 ?b21; (case b0 => k_is); (case b1 => k_is); (case b2 => k_is); (case b3 => k_is); (case b4 => k_is); (case b5 => k_is); (case b6 => k_is); (case b7 => k_is); (case b8 => k_is); (case b9 => k_is); (case b10 => k_is); (case b11 => k_is); (case b12 => k_is); (case b13 => k_is); (case b14 => k_is); (case b15 => k_is); (case b16 => k_is); (case b17 => k_is); (case b18 => k_is); (case b19 => k_is); (case b20 => k_is); (case b21 => k_is)))
