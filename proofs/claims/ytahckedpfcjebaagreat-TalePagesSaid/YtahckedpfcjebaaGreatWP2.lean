/- The second text under the proof of TalePages: of any records and any number of a cursor the statement TalePages returns true, and what came in reads as it did; no condition. -/
import Derived.Test.YtahckedpfcjebaaGreatWP1
import Derived.Below
import Derived.ChangeArms
import Derived.ChangeOld
import Derived.KernelRfl
import Derived.Test.YtahckedpfcjebaaGreatProg
import Derived.WideKeyArgs
import Derived.WideShapes
set_option linter.unusedVariables false
set_option linter.unusedSimpArgs false
namespace Go.WG
open Go
section
variable {P : Program} {n : Nat} {fr : Frm} {H G : List Asr} {o : Oper}

/-- two values of a type are one, or aren't, at whatever depth from 'k' on -/
def EqR (P : Program) (k : Nat) (t : TypeId) (x y : Value) (b : Bool) : Prop := ∀ m, k ≤ m → ∀ w, (Op.equalIn m t x y).run P w = .ok b w
theorem EqR.up {k k' : Nat} {t : TypeId} {x y : Value} {b : Bool} (h : EqR P k t x y b) (hk : k ≤ k') : EqR P k' t x y b := fun m hm => h m (Nat.le_trans hk hm)
theorem eq_int {k : Nat} {t : TypeId} {k0 ki : IntKind} {a b : Int} (hu : P.underlying t = some (.int k0)) : EqR P (k + 1) t (.int ki a) (.int ki b) (a == b) := fun m hm w => by
  obtain ⟨m, rfl⟩ : ∃ q, m = q + 1 := ⟨m - 1, by omega⟩
  unfold Op.equalIn; rw [Sem.run_bind, run_underlying hu]; simp [Sem.run_pure]
theorem eq_bool {k : Nat} {t : TypeId} {a b : Bool} (hu : P.underlying t = some .bool) : EqR P (k + 1) t (.bool a) (.bool b) (a == b) := fun m hm w => by
  obtain ⟨m, rfl⟩ : ∃ q, m = q + 1 := ⟨m - 1, by omega⟩
  exact rq_bool m hu w
theorem S_beq (a b : Str) : (S a == S b) = (a == b) := by
  show (a.toArray == b.toArray) = (a == b)
  simp
theorem eq_str {k : Nat} {t : TypeId} {a b : Str} (hu : P.underlying t = some .string) : EqR P (k + 1) t (.string (S a)) (.string (S b)) (a == b) := fun m hm w => by
  obtain ⟨m, rfl⟩ : ∃ q, m = q + 1 := ⟨m - 1, by omega⟩
  unfold Op.equalIn; rw [Sem.run_bind, run_underlying hu]
  show Result.ok (S a == S b) w = _
  rw [S_beq]

inductive EqFs (P : Program) (k : Nat) (cs ds : List Value) : List Field → Bool → Prop
  | nil : EqFs P k cs ds [] true
  | cons {f l us vs agg size b b'} : (f.name == "_") = false → Ty P f.type agg size → Sub cs f.offset us → us.length = size → (agg = false → us.length = 1) →
      Sub ds f.offset vs → vs.length = size → (agg = false → vs.length = 1) → EqR P k f.type (vof agg us) (vof agg vs) b → EqFs P k cs ds l b' → EqFs P k cs ds (f :: l) (b && b')
/-- the fields, one behind the other -/
def eqLoop (d : Nat) (xs ys : Array Value) : List Field → Sem Bool
  | [] => pure true
  | f :: l => do
    if f.name ≠ "_" then
      if !(← Op.equalIn d f.type (← part f.type xs f.offset) (← part f.type ys f.offset)) then pure false else eqLoop d xs ys l
    else eqLoop d xs ys l
theorem eqLoop_run {k : Nat} {cs ds : List Value} {l : List Field} {b : Bool} (h : EqFs P k cs ds l b) : ∀ m, k ≤ m → ∀ w, (eqLoop m ⟨cs⟩ ⟨ds⟩ l).run P w = .ok b w := by
  induction h with
  | nil => exact fun _ _ _ => rfl
  | @cons f l us vs agg size b b' hn ht h1 h2 h3 h4 h5 h6 he _ ih =>
    intro m hm w
    have hn' : f.name ≠ "_" := by simpa using hn
    unfold eqLoop
    rw [if_pos hn']
    simp only [Sem.run_bind, part_run ht h1 h2 h3, part_run ht h4 h5 h6, Result.andThen_ok, he m hm]
    cases b with
    | true => simp only [Bool.not_true, Bool.false_eq_true, if_false, Bool.true_and]; exact ih m hm w
    | false => simp [Sem.run_pure]
theorem forIn_eqLoop (d : Nat) (xs ys : Array Value) : ∀ (l : List Field) (w : World), (do
      for f in l do
        if f.name ≠ "_" then
          if !(← Op.equalIn d f.type (← part f.type xs f.offset) (← part f.type ys f.offset)) then return false
      pure true : Sem Bool).run P w = (eqLoop d xs ys l).run P w := by
  intro l
  induction l with
  | nil => intro w; rfl
  | cons f l ih =>
    intro w
    unfold eqLoop
    simp only [List.forIn_cons, bind_assoc] at ih ⊢
    split
    · simp only [Sem.run_bind] at ih ⊢
      cases h1 : (part f.type xs f.offset).run P w with
      | halt => rfl
      | ok x w1 =>
        simp only [Result.andThen_ok]
        cases h2 : (part f.type ys f.offset).run P w1 with
        | halt => rfl
        | ok y w2 =>
          simp only [Result.andThen_ok]
          cases h3 : (Op.equalIn d f.type x y).run P w2 with
          | halt => rfl
          | ok b w3 =>
            simp only [Result.andThen_ok]
            cases b with
            | true => simp only [Bool.not_true, Bool.false_eq_true, if_false, Sem.run_pure, Result.andThen_ok, Sem.run_bind]; exact ih w3
            | false => simp [Sem.run_pure]
    · simp only [Sem.run_bind, Sem.run_pure, Result.andThen_ok] at ih ⊢; exact ih w
theorem eq_struct {k : Nat} {t : TypeId} {fs : Array Field} {cs ds : List Value} {b : Bool} (hu : P.underlying t = some (.struct fs)) (hst : P.stoodInHeld t = false) (h : EqFs P k cs ds fs.toList b) :
    EqR P (k + 1) t (.agg ⟨cs⟩) (.agg ⟨ds⟩) b := by
  intro m hm w
  obtain ⟨m, rfl⟩ : ∃ q, m = q + 1 := ⟨m - 1, by omega⟩
  unfold Op.equalIn
  rw [Sem.run_bind, run_underlying hu]
  simp only [Result.andThen_ok]
  have hp : ∀ w, (program : Sem Program).run P w = .ok P w := fun w => rfl
  rw [Sem.run_bind, hp]
  simp only [Result.andThen_ok, hst, Bool.false_eq_true, if_false]
  have := (forIn_eqLoop (P := P) m ⟨cs⟩ ⟨ds⟩ fs.toList w).trans (eqLoop_run h m (by omega) w)
  simpa only [Array.forIn_toList] using this
theorem eg_run {op : BinOp} {t : TypeId} {x y : Operand} {cs ds : Array Value} (hop : op = .eql ∨ op = .neq) (hg : P.eqGuardType P.depth t = false) (w : World) : (eqGuard op t x y (.agg cs) (.agg ds)).run P w = .ok () w := by
  have hp : ∀ w, (program : Sem Program).run P w = .ok P w := fun w => rfl
  unfold eqGuard
  rcases hop with rfl | rfl
  · simp only [Bool.not_true, Bool.false_eq_true, if_false, Sem.run_bind, hp, Result.andThen_ok, hg, Bool.not_false, if_true]; rfl
  · simp only [Bool.not_true, Bool.false_eq_true, if_false, Sem.run_bind, hp, Result.andThen_ok, hg, Bool.not_false, if_true]; rfl
theorem pe_aeql {t ty : TypeId} {x y : Operand} {cs ds : List Value} {b : Bool} {k : Nat} (hg : P.eqGuardType P.depth t = false) (he : EqR P k t (.agg ⟨cs⟩) (.agg ⟨ds⟩) b) (hk' : Nat.ble k 10000 = true) (hop : o.op = .binOp .eql t x y ty) (hx : ev fr x = some (.agg ⟨cs⟩)) (hy : ev fr y = some (.agg ⟨ds⟩)) :
    PureEval P o n fr H (.bool b) := by
  intro a w hk hw
  have hr := he 10000 (Nat.le_of_ble_eq_true hk')
  simp only [execOp, hop, hk.eval hx, hk.eval hy, Sem.run_bind, eg_run (.inl rfl) hg, Result.andThen_ok, binOp, Op.equal, Op.maxDepth, hr, Sem.run_pure]
theorem pe_aneq {t ty : TypeId} {x y : Operand} {cs ds : List Value} {b : Bool} {k : Nat} (hg : P.eqGuardType P.depth t = false) (he : EqR P k t (.agg ⟨cs⟩) (.agg ⟨ds⟩) b) (hk' : Nat.ble k 10000 = true) (hop : o.op = .binOp .neq t x y ty) (hx : ev fr x = some (.agg ⟨cs⟩)) (hy : ev fr y = some (.agg ⟨ds⟩)) :
    PureEval P o n fr H (.bool (!b)) := by
  intro a w hk hw
  have hr := he 10000 (Nat.le_of_ble_eq_true hk')
  simp only [execOp, hop, hk.eval hx, hk.eval hy, Sem.run_bind, eg_run (.inr rfl) hg, Result.andThen_ok, binOp, Op.equal, Op.maxDepth, hr, Sem.run_pure]
end
end Go.WG

set_option linter.unusedVariables false
set_option linter.unusedSimpArgs false
namespace Go.WG
open Go
section
variable {κ ν : Type} {P : Program} {n : Nat} {fr : Frm} {H G : List Asr} {o : Oper} {K : Act → World → Prop} {ops : Array Oper} {Q : Exit → Act → World → Prop} {M : List Nat} {sp : List Nat} {pre : List Pre}

def mgetD [BEq κ] (m : List (κ × ν)) (k : κ) (z : ν) : ν := match m with
  | [] => z
  | p :: l => if p.1 == k then p.2 else mgetD l k z
def mhas [BEq κ] (m : List (κ × ν)) (k : κ) : Bool := match m with
  | [] => false
  | p :: l => if p.1 == k then true else mhas l k
def mset [BEq κ] (m : List (κ × ν)) (k : κ) (v : ν) : List (κ × ν) := match m with
  | [] => [(k, v)]
  | p :: l => if p.1 == k then (k, v) :: l else p :: mset l k v
def mdel [BEq κ] (m : List (κ × ν)) (k : κ) : List (κ × ν) := match m with
  | [] => []
  | p :: l => if p.1 == k then l else p :: mdel l k

/-- what a map's entries are -/
def Ents (ek : κ → Value) (ev : ν → Value) : List MapEntry → List (κ × ν) → Prop
  | [], [] => True
  | e :: es, p :: m => e.key = ek p.1 ∧ e.val = ev p.2 ∧ Ents ek ev es m
  | _, _ => False
/-- a map of one's own -/
def mp (ek : κ → Value) (ev : ν → Value) (b : Nat) (m : List (κ × ν)) : Asr where
  holds w I O := (∀ o, O b o) ∧ ∃ es clock, w.heap[b]? = some (.map es clock) ∧ Ents ek ev es.toList m
  mono := by
    rintro w w' I I' O O' ⟨h1, es, clock, h2, h3⟩ hI hO hk
    refine ⟨fun o => hO _ _ (h1 o), es, clock, ?_, h3⟩
    have := hk.same b 0 (.inr (h1 0))
    simp only [at_, h2, atObj] at this
    revert this
    cases hh : w'.heap[b]? with
    | none => intro h; cases h
    | some x =>
      cases x <;> simp only [atObj] <;> intro h
      case cells c t f => obtain ⟨lo, hi⟩ := f; simp only [atObj] at h; split at h <;> cases h
      all_goals (cases h; first | rfl | done)
/-- a map of one's own, or nil -/
def mpn (ek : κ → Value) (ev : ν → Value) (p : Option Nat) (m : List (κ × ν)) : Asr where
  holds w I O := (p = none ∧ m = []) ∨ ∃ b, p = some b ∧ (mp ek ev b m).holds w I O
  mono := by
    rintro w w' I I' O O' h hI hO hk
    rcases h with h | ⟨b, hp, h⟩
    · exact .inl h
    · exact .inr ⟨b, hp, (mp ek ev b m).mono h hI hO hk⟩
theorem mpn_nil {ek : κ → Value} {ev : ν → Value} : Imp H (mpn ek ev none [] :: H) := Imp.of_sat fun w I O h => ⟨fun _ _ => False, O, fun _ _ x => x.elim, fun _ _ x => x, fun _ _ x => x.elim, .inl ⟨rfl, rfl⟩, h⟩
theorem mpn_some {ek : κ → Value} {ev : ν → Value} {b : Nat} {m : List (κ × ν)} : Imp (mp ek ev b m :: H) (mpn ek ev (some b) m :: H) := Imp.of_sat fun w I O h => by
  obtain ⟨O1, O2, h1, h2, h12, hA, hH⟩ := h
  exact ⟨O1, O2, h1, h2, h12, .inr ⟨b, rfl, hA⟩, hH⟩
theorem Ex.mpn_open {ek : κ → Value} {ev : ν → Value} {p : Option Nat} {m : List (κ × ν)} (hp : Pull (mpn ek ev p m) H G) (h : p.isNone = false) : Ex H (fun b : Nat => p = some b) (fun b => mp ek ev b m :: G) := by
  intro w hw
  obtain ⟨I, O, hI, hO, hd, hs⟩ := hw
  obtain ⟨O1, O2, h1, h2, h12, hA, hH⟩ := hp.sat w I O hs
  rcases hA with ⟨rfl, _⟩ | ⟨b, rfl, hA⟩
  · cases h
  · exact ⟨b, rfl, I, O, hI, hO, hd, O1, O2, h1, h2, h12, hA, hH⟩
theorem Ex.mpn_null {ek : κ → Value} {ev : ν → Value} {p : Option Nat} {m : List (κ × ν)} (hp : Pull (mpn ek ev p m) H G) (h : p.isNone = true) : Ex H (fun _ : Unit => p = none ∧ m = []) (fun _ => H) := by
  intro w hw
  refine ⟨(), ?_, hw⟩
  obtain ⟨I, O, hI, hO, hd, hs⟩ := hw
  obtain ⟨O1, O2, h1, h2, h12, hA, hH⟩ := hp.sat w I O hs
  rcases hA with h' | ⟨b, rfl, hA⟩
  · exact h'
  · cases h

/-- keys of a type: how they are found -/
structure KeyL [BEq κ] (P : Program) (kt : TypeId) (ek : κ → Value) : Prop where
  find : ∀ {ν : Type} (ev : ν → Value) (es : List MapEntry) (m : List (κ × ν)) (k : κ), Ents ek ev es m → ∀ w, ∃ r, (Instr.findKey kt (ek k) es).run P w = .ok r w ∧
    ((mhas m k = false ∧ r = none) ∨ ∃ i e, mhas m k = true ∧ r = some (i, e.val) ∧ es[i]? = some e ∧ e.key = ek k ∧ (∀ z, e.val = ev (mgetD m k z)) ∧
      (∀ v, Ents ek ev (es.modify i fun e => { e with key := ek k, val := ev v }) (mset m k v)) ∧ Ents ek ev (es.eraseIdx i) (mdel m k))
  check : ∀ b k w, (Instr.checkKey b 10000 kt (ek k)).run P w = .ok () w
  bits : ∀ k, Instr.sameBits 10000 (ek k) (ek k) = true

/-- by one rule of finding, whichever it is -/
theorem find_list [BEq κ] [LawfulBEq κ] {ek : κ → Value} {ν : Type} {ev : ν → Value} {k : κ} : ∀ {es : List MapEntry} {m : List (κ × ν)} (j : Nat), Ents ek ev es m →
    (mhas m k = false) ∨ ∃ i e, mhas m k = true ∧ es[i]? = some e ∧ e.key = ek k ∧ (∀ z, e.val = ev (mgetD m k z)) ∧
      (∀ v, Ents ek ev (es.modify i fun e => { e with key := ek k, val := ev v }) (mset m k v)) ∧ Ents ek ev (es.eraseIdx i) (mdel m k) ∧ (∃ p, m[i]? = some p ∧ (p.1 == k) = true) ∧ ∀ j' < i, ∀ p, m[j']? = some p → (p.1 == k) = false
  | [], [], _, _ => .inl rfl
  | [], _ :: _, _, h => h.elim
  | _ :: _, [], _, h => h.elim
  | e :: es, p :: m, j, ⟨h1, h2, h3⟩ => by
    cases hb : (p.1 == k) with
    | true =>
      have hk := eq_of_beq hb
      refine .inr ⟨0, e, by simp [mhas, hb], rfl, by rw [h1, hk], fun z => by simp [mgetD, hb, h2], fun v => by simp only [mset, hb, if_true]; exact ⟨rfl, rfl, h3⟩, by simp only [mdel, hb, if_true]; exact h3, ⟨p, rfl, hb⟩, fun j' hj' => by omega⟩
    | false =>
      rcases find_list (k := k) (j + 1) h3 with h | ⟨i, e', g1, g2, g3, g4, g5, g6, g7, g8⟩
      · exact .inl (by simp [mhas, hb, h])
      · refine .inr ⟨i + 1, e', by simp [mhas, hb, g1], g2, g3, fun z => by simp only [mgetD, hb]; exact g4 z, fun v => by simp only [mset, hb]; exact ⟨h1, h2, g5 v⟩, by simp only [mdel, hb]; exact ⟨h1, h2, g6⟩, g7, fun j' hj' q hq => ?_⟩
        cases j' with
        | zero => simp at hq; subst hq; exact hb
        | succ j' => exact g8 j' (by omega) q hq

theorem beq_symm' [BEq κ] [LawfulBEq κ] {a b : κ} : (a == b) = (b == a) := by
  rw [Bool.eq_iff_iff, beq_iff_eq, beq_iff_eq]; exact eq_comm
theorem findNow_spec [BEq κ] [LawfulBEq κ] {ek : κ → Value} {kind : TypeDesc} (same : ∀ x y, Instr.sameNow kind (ek x) (ek y) = some (x == y)) {ν : Type} {ev : ν → Value} {k : κ} : ∀ {es : List MapEntry} {m : List (κ × ν)} (j : Nat), Ents ek ev es m →
    (mhas m k = false → Instr.findNow kind (ek k) es j = some none) ∧ ∀ i e, es[i]? = some e → (∃ p, m[i]? = some p ∧ (p.1 == k) = true) → (∀ j' < i, ∀ p, m[j']? = some p → (p.1 == k) = false) → Instr.findNow kind (ek k) es j = some (some (j + i, e.val))
  | [], [], _, _ => ⟨fun _ => rfl, fun i e h => by simp at h⟩
  | [], _ :: _, _, h => h.elim
  | _ :: _, [], _, h => h.elim
  | e :: es, p :: m, j, ⟨h1, h2, h3⟩ => by
    have hs := same k p.1
    rw [beq_symm'] at hs
    have ih := findNow_spec same (k := k) (j + 1) h3
    cases hb : (p.1 == k) with
    | true =>
      rw [hb] at hs
      refine ⟨fun h => by simp [mhas, hb] at h, fun i e' he hp hj => ?_⟩
      cases i with
      | zero => simp at he; subst he; simp only [Instr.findNow, h1, hs]; rfl
      | succ i => have := hj 0 (by omega) p rfl; rw [hb] at this; cases this
    | false =>
      rw [hb] at hs
      refine ⟨fun h => by simp only [Instr.findNow, h1, hs]; exact ih.1 (by simpa [mhas, hb] using h), fun i e' he hp hj => ?_⟩
      cases i with
      | zero => obtain ⟨q, hq, hqb⟩ := hp; simp at hq; subst hq; rw [hb] at hqb; cases hqb
      | succ i =>
        simp only [Instr.findNow, h1, hs]
        have := ih.2 i e' he hp (fun j' hj' q hq => hj (j' + 1) (by omega) q hq)
        rw [this, show j + 1 + i = j + (i + 1) by omega]
theorem findAsking_spec [BEq κ] [LawfulBEq κ] {ek : κ → Value} {kt : TypeId} (same : ∀ x y w, (Op.equal kt (ek x) (ek y)).run P w = .ok (x == y) w) {ν : Type} {ev : ν → Value} {k : κ} : ∀ {es : List MapEntry} {m : List (κ × ν)} (j : Nat), Ents ek ev es m →
    (mhas m k = false → ∀ w, (Instr.findAsking kt (ek k) es j).run P w = .ok none w) ∧ ∀ i e, es[i]? = some e → (∃ p, m[i]? = some p ∧ (p.1 == k) = true) → (∀ j' < i, ∀ p, m[j']? = some p → (p.1 == k) = false) → ∀ w, (Instr.findAsking kt (ek k) es j).run P w = .ok (some (j + i, e.val)) w
  | [], [], _, _ => ⟨fun _ _ => rfl, fun i e h => by simp at h⟩
  | [], _ :: _, _, h => h.elim
  | _ :: _, [], _, h => h.elim
  | e :: es, p :: m, j, ⟨h1, h2, h3⟩ => by
    have hs := same k p.1
    have ih := findAsking_spec same (k := k) (j + 1) h3
    have hb' : (k == p.1) = (p.1 == k) := beq_symm'
    rw [hb'] at hs
    cases hb : (p.1 == k) with
    | true =>
      rw [hb] at hs
      refine ⟨fun h => by simp [mhas, hb] at h, fun i e' he hp hj w => ?_⟩
      cases i with
      | zero => simp at he; subst he; simp only [Instr.findAsking, Sem.run_bind, h1, hs, Result.andThen_ok, if_true]; rfl
      | succ i => have := hj 0 (by omega) p rfl; rw [hb] at this; cases this
    | false =>
      rw [hb] at hs
      refine ⟨fun h w => by simp only [Instr.findAsking, Sem.run_bind, h1, hs, Result.andThen_ok, Bool.false_eq_true, if_false]; exact ih.1 (by simpa [mhas, hb] using h) w, fun i e' he hp hj w => ?_⟩
      cases i with
      | zero => obtain ⟨q, hq, hqb⟩ := hp; simp at hq; subst hq; rw [hb] at hqb; cases hqb
      | succ i =>
        simp only [Instr.findAsking, Sem.run_bind, h1, hs, Result.andThen_ok, Bool.false_eq_true, if_false]
        have := ih.2 i e' he hp (fun j' hj' q hq => hj (j' + 1) (by omega) q hq) w
        rw [this, show j + 1 + i = j + (i + 1) by omega]
theorem KeyL.of_now [BEq κ] [LawfulBEq κ] {kt : TypeId} {ek : κ → Value} {kind : TypeDesc} (hu : P.underlying kt = some kind) (same : ∀ x y, Instr.sameNow kind (ek x) (ek y) = some (x == y))
    (check : ∀ b k w, (Instr.checkKey b 10000 kt (ek k)).run P w = .ok () w) (bits : ∀ k, Instr.sameBits 10000 (ek k) (ek k) = true) : KeyL P kt ek where
  find ev es m k h w := by
    have hs := findNow_spec same (k := k) 0 h
    rcases find_list (k := k) 0 h with h0 | ⟨i, e, g1, g2, g3, g4, g5, g6, g7, g8⟩
    · exact ⟨none, by simp only [Instr.findKey, Sem.run_bind, run_underlying hu, Result.andThen_ok, hs.1 h0, Sem.run_pure], .inl ⟨h0, rfl⟩⟩
    · refine ⟨some (i, e.val), ?_, .inr ⟨i, e, g1, rfl, g2, g3, g4, g5, g6⟩⟩
      have := hs.2 i e g2 g7 g8
      rw [Nat.zero_add] at this
      simp only [Instr.findKey, Sem.run_bind, run_underlying hu, Result.andThen_ok, this, Sem.run_pure]
  check := check
  bits := bits
theorem KeyL.of_asking [BEq κ] [LawfulBEq κ] {kt : TypeId} {ek : κ → Value} {kind : TypeDesc} (hu : P.underlying kt = some kind) (none' : ∀ x y, Instr.sameNow kind (ek x) (ek y) = none) (same : ∀ x y w, (Op.equal kt (ek x) (ek y)).run P w = .ok (x == y) w)
    (check : ∀ b k w, (Instr.checkKey b 10000 kt (ek k)).run P w = .ok () w) (bits : ∀ k, Instr.sameBits 10000 (ek k) (ek k) = true) : KeyL P kt ek where
  find ev es m k h w := by
    have hs := findAsking_spec same (k := k) 0 h
    have hn : Instr.findNow kind (ek k) es 0 = none ∨ es = [] := by
      cases es with
      | nil => exact .inr rfl
      | cons e es => cases m with
        | nil => exact h.elim
        | cons p m => obtain ⟨h1, _, _⟩ := h; exact .inl (by simp only [Instr.findNow, h1, none'])
    rcases find_list (k := k) 0 h with h0 | ⟨i, e, g1, g2, g3, g4, g5, g6, g7, g8⟩
    · refine ⟨none, ?_, .inl ⟨h0, rfl⟩⟩
      rcases hn with hn | rfl
      · simp only [Instr.findKey, Sem.run_bind, run_underlying hu, Result.andThen_ok, hn, hs.1 h0]
      · simp only [Instr.findKey, Sem.run_bind, run_underlying hu, Result.andThen_ok, Instr.findNow, Sem.run_pure]
    · refine ⟨some (i, e.val), ?_, .inr ⟨i, e, g1, rfl, g2, g3, g4, g5, g6⟩⟩
      have := hs.2 i e g2 g7 g8 w
      rw [Nat.zero_add] at this
      rcases hn with hn | rfl
      · simp only [Instr.findKey, Sem.run_bind, run_underlying hu, Result.andThen_ok, hn, this]
      · simp at g2
  check := check
  bits := bits

/-- a map's type -/
structure MapT (P : Program) (t kt vt : TypeId) : Prop where
  map : P.underlying t = some (.map kt vt)
theorem Ents.length {ek : κ → Value} {ev : ν → Value} : ∀ {es : List MapEntry} {m : List (κ × ν)}, Ents ek ev es m → es.length = m.length
  | [], [], _ => rfl
  | [], _ :: _, h => h.elim
  | _ :: _, [], h => h.elim
  | _ :: _, _ :: _, ⟨_, _, h⟩ => by simp [Ents.length h]
theorem Ents.push [BEq κ] {ek : κ → Value} {ev : ν → Value} {k : κ} {v : ν} {c : Nat} : ∀ {es : List MapEntry} {m : List (κ × ν)}, Ents ek ev es m → mhas m k = false → Ents ek ev (es ++ [{ key := ek k, val := ev v, born := c }]) (mset m k v)
  | [], [], _, _ => ⟨rfl, rfl, trivial⟩
  | [], _ :: _, h, _ => h.elim
  | _ :: _, [], h, _ => h.elim
  | _ :: _, p :: m, ⟨h1, h2, h3⟩, hk => by
    cases hb : (p.1 == k) with
    | true => simp [mhas, hb] at hk
    | false => simp only [mset, hb]; exact ⟨h1, h2, Ents.push h3 (by simpa [mhas, hb] using hk)⟩
theorem Ents.del_none [BEq κ] {k : κ} : ∀ {m : List (κ × ν)}, mhas m k = false → mdel m k = m
  | [], _ => rfl
  | p :: m, hk => by
    cases hb : (p.1 == k) with
    | true => simp [mhas, hb] at hk
    | false => simp only [mdel, hb]; rw [Ents.del_none (by simpa [mhas, hb] using hk)]; rfl

theorem Holds.mpAt {w : World} {ek : κ → Value} {ev : ν → Value} {b : Nat} {m : List (κ × ν)} (hp : Pull (mp ek ev b m) H G) (hw : Holds w H) : ∃ es clock, w.heap[b]? = some (.map es clock) ∧ Ents ek ev es.toList m := by
  obtain ⟨I, O, hI, hO, hd, hs⟩ := hw
  obtain ⟨O1, O2, h1, h2, h12, ⟨_, hA⟩, hH⟩ := hp.sat w I O hs
  exact hA
theorem run_getMap {w : World} {b : Nat} {es : Array MapEntry} {clock : Nat} (h : w.heap[b]? = some (.map es clock)) : (getObj b).run P w = .ok (.map es clock) w := by
  unfold getObj; simp only [Sem.run, h]
theorem mgetD_none [BEq κ] {k : κ} {z : ν} : ∀ {m : List (κ × ν)}, mhas m k = false → mgetD m k z = z
  | [], _ => rfl
  | p :: m, h => by
    cases hb : (p.1 == k) with
    | true => simp [mhas, hb] at h
    | false => simp only [mgetD, hb]; exact mgetD_none (by simpa [mhas, hb] using h)
theorem pe_lookup [BEq κ] {t kt vt : TypeId} {x i : Operand} {ek : κ → Value} {ev : ν → Value} {b : Nat} {m : List (κ × ν)} {k : κ} {z : ν} {v : Value} (hp : Pull (mp ek ev b m) H G) (hm : MapT P t kt vt) (hk : KeyL P kt ek) (hz : ∀ w, (zeroValue vt).run P w = .ok (ev z) w) (hop : o.op = .lookup t x i true)
    (hx : WG.ev fr x = some (.map (some b))) (hi : WG.ev fr i = some (ek k)) (hv : ev (mgetD m k z) = v) : PureEval P o n fr H (.tuple ⟨[v, .bool (mhas m k)]⟩) := by
  subst hv
  intro a w hkn hw
  obtain ⟨es, clock, hh, he⟩ := hw.mpAt hp
  obtain ⟨r, hr, hc⟩ := hk.find ev es.toList m k he w
  simp only [execOp, hop, hkn.eval hx, hkn.eval hi, Instr.lookup, Sem.run_bind, run_underlying hm.map, Result.andThen_ok, run_getMap hh, Sem.run_pure, hk.check, hr]
  rcases hc with ⟨h0, rfl⟩ | ⟨i, e, h1, rfl, _, _, h2, _⟩
  · simp only [Sem.run_bind, hz, Result.andThen_ok, Sem.run_pure, h0, mgetD_none h0, if_true]
  · simp only [Sem.run_bind, Sem.run_pure, Result.andThen_ok, h1, h2 z, if_true]
theorem pe_lookupn [BEq κ] {t kt vt : TypeId} {x i : Operand} {ek : κ → Value} {ev : ν → Value} {p : Option Nat} {m : List (κ × ν)} {k : κ} {z : ν} {v : Value} (hp : Pull (mpn ek ev p m) H G) (hm : MapT P t kt vt) (hk : KeyL P kt ek) (hz : ∀ w, (zeroValue vt).run P w = .ok (ev z) w) (hop : o.op = .lookup t x i true)
    (hx : WG.ev fr x = some (.map p)) (hi : WG.ev fr i = some (ek k)) (hv : ev (mgetD m k z) = v) : PureEval P o n fr H (.tuple ⟨[v, .bool (mhas m k)]⟩) := by
  intro a w hkn hw
  cases hpn : p with
  | none =>
    subst hpn
    obtain ⟨w1, hw1⟩ := Ex.mpn_null hp rfl w hw
    obtain ⟨⟨_, rfl⟩, _⟩ := hw1
    subst hv
    obtain ⟨r, hr, hc⟩ := hk.find ev [] [] k trivial w
    have hr0 : r = none := by
      rcases hc with ⟨_, h⟩ | ⟨_, _, h, _⟩
      · exact h
      · cases h
    subst hr0
    have hr' : (Instr.findKey kt (ek k) (#[] : Array MapEntry).toList).run P w = .ok none w := hr
    simp only [execOp, hop, hkn.eval hx, hkn.eval hi, Instr.lookup, Sem.run_bind, run_underlying hm.map, Result.andThen_ok, Sem.run_pure, hk.check, hr', hz, if_true]
    rfl
  | some b =>
    subst hpn
    obtain ⟨b', e, hw'⟩ := Ex.mpn_open hp rfl w hw
    cases e
    exact pe_lookup (H := mp ek ev b m :: G) .z hm hk hz hop hx hi hv a w hkn hw'
theorem pe_mlen {t kt vt : TypeId} {x : Operand} {ek : κ → Value} {ev : ν → Value} {b : Nat} {m : List (κ × ν)} (hp : Pull (mp ek ev b m) H G) (hm : MapT P t kt vt) (hop : o.op = .call { callee := .builtin .len, args := ⟨[x]⟩, argTypes := ⟨[t]⟩ })
    (hx : WG.ev fr x = some (.map (some b))) : PureEval P o n fr H (.int .i64 m.length) := by
  intro a w hkn hw
  obtain ⟨es, clock, hh, he⟩ := hw.mpAt hp
  have hma := args_array (l := [x]) (us := [.map (some b)]) hkn (by simp [hx])
  simp only [execOp, hop, resolve, hma, Sem.run_bind, Sem.run_pure, Result.andThen_ok, invoke, builtin]
  simp only [Builtin.len_, List.getElem?_toArray, List.getElem?_cons_zero, Sem.run_bind, run_underlying hm.map, Result.andThen_ok, run_getMap hh, Sem.run_pure, goInt]
  rw [← he.length]; rfl
theorem pe_mlenn {t kt vt : TypeId} {x : Operand} {ek : κ → Value} {ev : ν → Value} {p : Option Nat} {m : List (κ × ν)} (hp : Pull (mpn ek ev p m) H G) (hm : MapT P t kt vt) (hop : o.op = .call { callee := .builtin .len, args := ⟨[x]⟩, argTypes := ⟨[t]⟩ })
    (hx : WG.ev fr x = some (.map p)) : PureEval P o n fr H (.int .i64 m.length) := by
  intro a w hkn hw
  cases hpn : p with
  | none =>
    subst hpn
    obtain ⟨_, ⟨_, rfl⟩, _⟩ := Ex.mpn_null hp rfl w hw
    have hma := args_array (l := [x]) (us := [.map none]) hkn (by simp [hx])
    simp only [execOp, hop, resolve, hma, Sem.run_bind, Sem.run_pure, Result.andThen_ok, invoke, builtin]
    simp only [Builtin.len_, List.getElem?_toArray, List.getElem?_cons_zero, Sem.run_bind, run_underlying hm.map, Result.andThen_ok, Sem.run_pure, goInt]
    rfl
  | some b =>
    subst hpn
    obtain ⟨b', e, hw'⟩ := Ex.mpn_open hp rfl w hw
    cases e
    exact pe_mlen (H := mp ek ev b m :: G) .z hm hop hx a w hkn hw'
theorem at_setMap {w : World} {b : Nat} {x : Obj} {b' o' : Nat} (hne : b' ≠ b) : at_ { w with heap := w.heap.setIfInBounds b x } b' o' = at_ w b' o' := by
  unfold at_
  simp only
  rw [Array.getElem?_setIfInBounds_ne (fun h => hne h.symm)]
theorem shape_setMap {w : World} {b : Nat} {es es' : Array MapEntry} {c c' : Nat} (h : w.heap[b]? = some (.map es c)) (b' : Nat) (y : TypeId × Nat × Nat × Nat) (hs : mt w b' = some y) : mt { w with heap := w.heap.setIfInBounds b (.map es' c') } b' = some y := by
  unfold mt at *
  by_cases e : b' = b
  · subst e; rw [h] at hs; cases hs
  · simp only [Array.getElem?_setIfInBounds_ne (fun h => e h.symm)]; exact hs
theorem Holds.mapSet {w : World} {ek : κ → Value} {ev : ν → Value} {b : Nat} {m m' : List (κ × ν)} {es es' : Array MapEntry} {c c' : Nat} (hw : Holds w (mp ek ev b m :: H)) (hh : w.heap[b]? = some (.map es c)) (he : Ents ek ev es'.toList m') :
    (setObj b (.map es' c')).run P w = .ok () { w with heap := w.heap.setIfInBounds b (.map es' c') } ∧ Holds { w with heap := w.heap.setIfInBounds b (.map es' c') } (mp ek ev b m' :: H) := by
  obtain ⟨I, O1, O2, hI, hO1, hO2, hd1, hd2, hd12, ⟨hA, _⟩, hS⟩ := hw.upd
  have hb : b < w.heap.size := hO1 b 0 (hA 0)
  refine ⟨by unfold setObj; simp only [Sem.run, hh], Holds.mk hI hO2 hd2 hS hO1 hd1 hd12 (I' := I) (O1' := fun b' _ => b' = b) ?_ (fun _ _ x => .inl x) (fun _ _ x => x) (fun b' o' x => .inl (by subst x; exact hA o')) (fun b' o' x y => by subst y; exact hd1 _ _ x (hA o')) ⟨fun _ => rfl, es', c', by simp [hb], he⟩⟩
  refine ⟨rfl, rfl, rfl, by simp, shape_setMap hh, fun b' o' hf => at_setMap ?_⟩
  rintro rfl
  rcases hf with hf | hf
  · exact hd1 _ _ hf (hA o')
  · exact hd12 _ _ (hA o') hf
theorem st_mset [BEq κ] {t kt vt : TypeId} {x i y : Operand} {ek : κ → Value} {ev : ν → Value} {b : Nat} {m : List (κ × ν)} {k : κ} {v : ν} {u : Value} (hp : Pull (mp ek ev b m) H G) (hm : MapT P t kt vt) (hk : KeyL P kt ek) (hop : o.op = .mapUpdate t x i y)
    (hx : WG.ev fr x = some (.map (some b))) (hi : WG.ev fr i = some (ek k)) (hy : WG.ev fr y = some u) (hv : ev v = u) : Step P o n fr H (fun _ H' => H' = mp ek ev b (mset m k v) :: G) := by
  subst hv
  intro a w hkn hw
  have hw := hp.imp w hw
  obtain ⟨es, clock, hh, he⟩ := hw.mpAt (.z (A := mp ek ev b m))
  obtain ⟨r, hr, hc⟩ := hk.find ev es.toList m k he w
  simp only [execOp, hop, hkn.eval hx, hkn.eval hi, hkn.eval hy, Instr.mapUpdate, Sem.run_bind, run_underlying hm.map, Result.andThen_ok, run_getMap hh, Sem.run_pure, hk.check, hr]
  rcases hc with ⟨h0, rfl⟩ | ⟨i, e, h1, rfl, h2, h3, _, h4, _⟩
  · have hp := he.push (k := k) (v := v) (c := clock) h0
    obtain ⟨g1, g2⟩ := Holds.mapSet (P := P) (c' := clock + 1) hw hh (es' := es.push { key := ek k, val := ev v, born := clock }) (by simpa using hp)
    simp only [Sem.run_bind, g1, Result.andThen_ok, Sem.run_pure]
    exact ⟨_, rfl, g2⟩
  · have hkey : ((es[i]?).map (·.key)).getD (ek k) = ek k := by
      have : es[i]? = some e := by simpa using h2
      rw [this]; simpa using h3
    have hstay : ∀ w, (Instr.keyThatStays (ek k) (ek k)).run P w = .ok (ek k) w := fun w => by
      unfold Instr.keyThatStays; rw [hk.bits k]; rfl
    obtain ⟨g1, g2⟩ := Holds.mapSet (P := P) (c' := clock) hw hh (es' := es.modify i fun e => { e with key := ek k, val := ev v }) (by simpa using h4 v)
    simp only [Sem.run_bind, hkey, hstay, Result.andThen_ok, g1, Sem.run_pure]
    exact ⟨_, rfl, g2⟩
theorem st_mdel [BEq κ] {t kt vt : TypeId} {x i : Operand} {ek : κ → Value} {ev : ν → Value} {b : Nat} {m : List (κ × ν)} {k : κ} {ts : List TypeId} (hp : Pull (mp ek ev b m) H G) (hm : MapT P t kt vt) (hk : KeyL P kt ek) (hop : o.op = .call { callee := .builtin .delete, args := ⟨[x, i]⟩, argTypes := ⟨t :: ts⟩ })
    (hx : WG.ev fr x = some (.map (some b))) (hi : WG.ev fr i = some (ek k)) : Step P o n fr H (fun _ H' => H' = mp ek ev b (mdel m k) :: G) := by
  intro a w hkn hw
  have hw := hp.imp w hw
  obtain ⟨es, clock, hh, he⟩ := hw.mpAt (.z (A := mp ek ev b m))
  obtain ⟨r, hr, hc⟩ := hk.find ev es.toList m k he w
  have hma := args_array (l := [x, i]) (us := [.map (some b), ek k]) hkn (by simp [hx, hi])
  simp only [execOp, hop, resolve, hma, Sem.run_bind, Sem.run_pure, Result.andThen_ok, invoke, builtin]
  simp only [Builtin.delete_, List.getElem?_toArray, List.getElem?_cons_zero, List.getElem?_cons_succ, Sem.run_bind, run_underlying hm.map, Result.andThen_ok, run_getMap hh, Sem.run_pure, hk.check, hr]
  rcases hc with ⟨h0, rfl⟩ | ⟨i, e, h1, rfl, h2, h3, _, _, h4⟩
  · obtain ⟨g1, g2⟩ := Holds.mapSet (P := P) (c' := clock) hw hh (es' := es) (m' := mdel m k) (by rw [Ents.del_none h0]; exact he)
    simp only [Sem.run_bind, g1, Result.andThen_ok, Sem.run_pure]
    exact ⟨_, rfl, g2⟩
  · obtain ⟨g1, g2⟩ := Holds.mapSet (P := P) (c' := clock) hw hh (es' := es.eraseIdxIfInBounds i) (m' := mdel m k) (by rw [Array.toList_eraseIdxIfInBounds]; exact h4)
    simp only [Sem.run_bind, g1, Result.andThen_ok, Sem.run_pure]
    exact ⟨_, rfl, g2⟩
theorem st_mkmap {t : TypeId} {ek : κ → Value} {ev : ν → Value} (hop : o.op = .makeMap t none) : Step P o n fr H (fun v H' => ∃ b, v = .map (some b) ∧ H' = mp ek ev b [] :: H) := by
  intro a w hkn hw
  simp only [execOp, hop, Instr.makeMap, Option.map_none, Sem.run_bind, newObj, Sem.run, Result.andThen_ok, Sem.run_pure]
  refine ⟨_, ⟨w.heap.size, rfl, rfl⟩, ?_⟩
  obtain ⟨I, O, hI, hO, hd, hs⟩ := hw
  refine Holds.mk (I := I) (O1 := fun _ _ => False) (O2 := O) (I' := I) (O1' := fun b o => b = w.heap.size) hI hO hd hs (by simp) (by simp) (by simp) ?_ (fun b o x => .inl x) (fun _ _ x => x) ?_ ?_ ?_
  · refine ⟨rfl, rfl, rfl, by simp, shape_push, fun b o hf => at_push_old ?_⟩
    rcases hf with hf | hf
    · exact hI b o hf
    · exact hO b o hf
  · intro b o x; exact .inr ⟨by omega, by simp; omega⟩
  · intro b o x y; have := hI b o x; omega
  · exact ⟨fun _ => rfl, #[], 0, by simp, trivial⟩
/-- a map that may be nil, held against nil -/
theorem rq_map {t kt vt : TypeId} {p : Option Nat} (d : Nat) (hu : P.underlying t = some (.map kt vt)) (w : World) : (Op.equalIn (d + 1) t (.map p) (.map none)).run P w = .ok p.isNone w := by
  unfold Op.equalIn; rw [Sem.run_bind, run_underlying hu]; cases p <;> rfl
theorem pe_meql {t ty kt vt : TypeId} {x y : Operand} {p : Option Nat} (hop : o.op = .binOp .eql t x y ty) (hx : WG.ev fr x = some (.map p)) (hy : WG.ev fr y = some (.map none)) (hu : P.underlying t = some (.map kt vt)) :
    PureEval P o n fr H (.bool p.isNone) := pe_eq hop hx hy rfl (by cases p <;> rfl) fun d w => rq_map d hu w
theorem st_mdeln [BEq κ] {t kt vt : TypeId} {x i : Operand} {ek : κ → Value} {ev : ν → Value} {p : Option Nat} {m : List (κ × ν)} {k : κ} {ts : List TypeId} (hp : Pull (mpn ek ev p m) H G) (hm : MapT P t kt vt) (hk : KeyL P kt ek) (hop : o.op = .call { callee := .builtin .delete, args := ⟨[x, i]⟩, argTypes := ⟨t :: ts⟩ })
    (hx : WG.ev fr x = some (.map p)) (hi : WG.ev fr i = some (ek k)) : Step P o n fr H (fun _ H' => H' = mpn ek ev p (mdel m k) :: G) := by
  intro a w hkn hw
  cases hpn : p with
  | none =>
    subst hpn
    have hw1 := hp.imp w hw
    obtain ⟨_, ⟨_, rfl⟩, _⟩ := Ex.mpn_null (.z (A := mpn ek ev none m) (H := G)) rfl w hw1
    have hma := args_array (l := [x, i]) (us := [.map none, ek k]) hkn (by simp [hx, hi])
    simp only [execOp, hop, resolve, hma, Sem.run_bind, Sem.run_pure, Result.andThen_ok, invoke, builtin]
    simp only [Builtin.delete_, List.getElem?_toArray, List.getElem?_cons_zero, List.getElem?_cons_succ, Sem.run_bind, run_underlying hm.map, Result.andThen_ok, Sem.run_pure, hk.check]
    exact ⟨_, rfl, hw1⟩
  | some b =>
    subst hpn
    obtain ⟨b', e, hw'⟩ := Ex.mpn_open hp rfl w hw
    cases e
    have := st_mdel (H := mp ek ev b m :: G) (ts := ts) .z hm hk hop hx hi a w hkn hw'
    refine this.mono fun v w' ⟨H', e, h⟩ => ⟨_, rfl, ?_⟩
    subst e
    exact mpn_some w' h
/-- whole numbers as keys -/
theorem KeyL_int {kt : TypeId} {k0 : IntKind} (hu : P.underlying kt = some (.int k0)) : KeyL P kt (fun x : Int => .int k0 x) :=
  KeyL.of_now hu (fun x y => by simp [Instr.sameNow]) (fun b k w => by
    unfold Instr.checkKey; rw [Sem.run_bind, run_underlying hu]; rfl) (fun k => by simp [Instr.sameBits])
theorem pe_max3 {x y z : Operand} {ts : Array TypeId} {k k' k'' : IntKind} {p q r : Int} (hop : o.op = .call { callee := .builtin .max, args := ⟨[x, y, z]⟩, argTypes := ts }) (hx : WG.ev fr x = some (.int k p)) (hy : WG.ev fr y = some (.int k' q)) (hz : WG.ev fr z = some (.int k'' r)) :
    PureEval P o n fr H (.int k (if r > (if q > p then q else p) then r else (if q > p then q else p))) := by
  intro a w hk hw
  have hm : (Array.mk [x, y, z]).map a.eval = #[Value.int k p, Value.int k' q, Value.int k'' r] := args_array hk (by simp [hx, hy, hz])
  simp only [execOp, hop, resolve, hm, Sem.run_bind, Sem.run_pure, Result.andThen_ok, invoke, builtin, Builtin.max_]
  rfl
theorem pe_min3 {x y z : Operand} {ts : Array TypeId} {k k' k'' : IntKind} {p q r : Int} (hop : o.op = .call { callee := .builtin .min, args := ⟨[x, y, z]⟩, argTypes := ts }) (hx : WG.ev fr x = some (.int k p)) (hy : WG.ev fr y = some (.int k' q)) (hz : WG.ev fr z = some (.int k'' r)) :
    PureEval P o n fr H (.int k (if r < (if q < p then q else p) then r else (if q < p then q else p))) := by
  intro a w hk hw
  have hm : (Array.mk [x, y, z]).map a.eval = #[Value.int k p, Value.int k' q, Value.int k'' r] := args_array hk (by simp [hx, hy, hz])
  simp only [execOp, hop, resolve, hm, Sem.run_bind, Sem.run_pure, Result.andThen_ok, invoke, builtin, Builtin.min_]
  rfl
end
end Go.WG

set_option linter.unusedVariables false
set_option maxRecDepth 10000
namespace Go.Proofs.M
open Go Go.WG
theorem ty3 : Ty Tryz.prog 3 false 1 := ⟨by kernel_rfl, by kernel_rfl⟩
theorem ty4 : Ty Tryz.prog 4 false 1 := ⟨by kernel_rfl, by kernel_rfl⟩
theorem ty9 : Ty Tryz.prog 9 false 1 := ⟨by kernel_rfl, by kernel_rfl⟩
theorem ty23 : Ty Tryz.prog 23 false 1 := ⟨by kernel_rfl, by kernel_rfl⟩
theorem ty24 : Ty Tryz.prog 24 false 1 := ⟨by kernel_rfl, by kernel_rfl⟩
theorem ty26 : Ty Tryz.prog 26 true 8 := ⟨by kernel_rfl, by kernel_rfl⟩
theorem ty30 : Ty Tryz.prog 30 true 6 := ⟨by kernel_rfl, by kernel_rfl⟩
theorem ty32 : Ty Tryz.prog 32 true 19 := ⟨by kernel_rfl, by kernel_rfl⟩
theorem ty40 : Ty Tryz.prog 40 false 1 := ⟨by kernel_rfl, by kernel_rfl⟩
theorem ty42 : Ty Tryz.prog 42 true 2 := ⟨by kernel_rfl, by kernel_rfl⟩
theorem ty55 : Ty Tryz.prog 55 false 1 := ⟨by kernel_rfl, by kernel_rfl⟩
theorem ty61 : Ty Tryz.prog 61 false 1 := ⟨by kernel_rfl, by kernel_rfl⟩
theorem ty83 : Ty Tryz.prog 83 true 2 := ⟨by kernel_rfl, by kernel_rfl⟩
theorem ty90 : Ty Tryz.prog 90 true 3 := ⟨by kernel_rfl, by kernel_rfl⟩
theorem fld26_0 : Fld Tryz.prog 26 0 0 23 := ⟨by kernel_rfl⟩
theorem fld26_1 : Fld Tryz.prog 26 1 1 3 := ⟨by kernel_rfl⟩
theorem fld26_2 : Fld Tryz.prog 26 2 2 3 := ⟨by kernel_rfl⟩
theorem fld26_3 : Fld Tryz.prog 26 3 3 3 := ⟨by kernel_rfl⟩
theorem fld26_4 : Fld Tryz.prog 26 4 4 3 := ⟨by kernel_rfl⟩
theorem fld26_5 : Fld Tryz.prog 26 5 5 9 := ⟨by kernel_rfl⟩
theorem fld26_6 : Fld Tryz.prog 26 6 6 24 := ⟨by kernel_rfl⟩
theorem fld26_7 : Fld Tryz.prog 26 7 7 4 := ⟨by kernel_rfl⟩
theorem fld30_0 : Fld Tryz.prog 30 0 0 3 := ⟨by kernel_rfl⟩
theorem fld30_1 : Fld Tryz.prog 30 1 1 9 := ⟨by kernel_rfl⟩
theorem fld30_2 : Fld Tryz.prog 30 2 2 3 := ⟨by kernel_rfl⟩
theorem fld30_3 : Fld Tryz.prog 30 3 3 3 := ⟨by kernel_rfl⟩
theorem fld30_4 : Fld Tryz.prog 30 4 4 3 := ⟨by kernel_rfl⟩
theorem fld30_5 : Fld Tryz.prog 30 5 5 9 := ⟨by kernel_rfl⟩
theorem fld32_2 : Fld Tryz.prog 32 2 2 30 := ⟨by kernel_rfl⟩
theorem fld32_3 : Fld Tryz.prog 32 3 8 26 := ⟨by kernel_rfl⟩
theorem fld32_4 : Fld Tryz.prog 32 4 16 3 := ⟨by kernel_rfl⟩
theorem fld32_5 : Fld Tryz.prog 32 5 17 3 := ⟨by kernel_rfl⟩
theorem fld32_6 : Fld Tryz.prog 32 6 18 3 := ⟨by kernel_rfl⟩
theorem fld42_0 : Fld Tryz.prog 42 0 0 40 := ⟨by kernel_rfl⟩
theorem fld42_1 : Fld Tryz.prog 42 1 1 3 := ⟨by kernel_rfl⟩
theorem fld58_0 : Fld Tryz.prog 58 0 0 42 := ⟨by kernel_rfl⟩
theorem fld58_1 : Fld Tryz.prog 58 1 2 3 := ⟨by kernel_rfl⟩
theorem fld58_2 : Fld Tryz.prog 58 2 3 55 := ⟨by kernel_rfl⟩
theorem fld63_2 : Fld Tryz.prog 63 2 2 61 := ⟨by kernel_rfl⟩
theorem fld83_0 : Fld Tryz.prog 83 0 0 3 := ⟨by kernel_rfl⟩
theorem fld90_0 : Fld Tryz.prog 90 0 0 3 := ⟨by kernel_rfl⟩
theorem fld90_1 : Fld Tryz.prog 90 1 1 9 := ⟨by kernel_rfl⟩
theorem zero26 : Zero Tryz.prog 26 [.int .i64 0, .int .i64 0, .int .i64 0, .int .i64 0, .int .i64 0, .string (S []), .slice none 0 0, .bool false] := ⟨by kernel_rfl⟩
theorem zero30 : Zero Tryz.prog 30 [.int .i64 0, .string (S []), .int .i64 0, .int .i64 0, .int .i64 0, .string (S [])] := ⟨by kernel_rfl⟩
theorem zero32 : Zero Tryz.prog 32 [.int .i64 0, .int .i64 0, .int .i64 0, .string (S []), .int .i64 0, .int .i64 0, .int .i64 0, .string (S []), .int .i64 0, .int .i64 0, .int .i64 0, .int .i64 0, .int .i64 0, .string (S []), .slice none 0 0, .bool false, .int .i64 0, .int .i64 0, .int .i64 0] := ⟨by kernel_rfl⟩
theorem zero42 : Zero Tryz.prog 42 [.slice none 0 0, .int .i64 0] := ⟨by kernel_rfl⟩
theorem zero58 : Zero Tryz.prog 58 [.slice none 0 0, .int .i64 0, .int .i64 0, .pointer none] := ⟨by kernel_rfl⟩
theorem zero63 : Zero Tryz.prog 63 [.int .i64 0, .int .i64 0, .map none] := ⟨by kernel_rfl⟩
theorem zero90 : Zero Tryz.prog 90 [.int .i64 0, .string (S []), .int .i64 0] := ⟨by kernel_rfl⟩
theorem stc26 : Stc Tryz.prog 26 [(0, 1), (1, 1), (2, 1), (3, 1), (4, 1), (5, 1), (6, 1), (7, 1)] := ⟨by kernel_rfl⟩
theorem stc30 : Stc Tryz.prog 30 [(0, 1), (1, 1), (2, 1), (3, 1), (4, 1), (5, 1)] := ⟨by kernel_rfl⟩
theorem stc32 : Stc Tryz.prog 32 [(0, 1), (1, 1), (2, 6), (8, 8), (16, 1), (17, 1), (18, 1)] := ⟨by kernel_rfl⟩
theorem stc58 : Stc Tryz.prog 58 [(0, 2), (2, 1), (3, 1)] := ⟨by kernel_rfl⟩
theorem stc63 : Stc Tryz.prog 63 [(0, 1), (1, 1), (2, 1)] := ⟨by kernel_rfl⟩
theorem stc90 : Stc Tryz.prog 90 [(0, 1), (1, 1), (2, 1)] := ⟨by kernel_rfl⟩
theorem elt22 : Elt Tryz.prog 22 32 19 := ⟨Tryz.underlying22, by kernel_rfl, by kernel_rfl, by kernel_rfl, by kernel_rfl⟩
theorem zsz22 : ((Tryz.prog.info? 32).bind (·.zero)).map (·.cells.size) = some 19 := by kernel_rfl
theorem elt24 : Elt Tryz.prog 24 9 1 := ⟨Tryz.underlying24, by kernel_rfl, by kernel_rfl, by kernel_rfl, by kernel_rfl⟩
theorem zsz24 : ((Tryz.prog.info? 9).bind (·.zero)).map (·.cells.size) = some 1 := by kernel_rfl
theorem elt40 : Elt Tryz.prog 40 83 2 := ⟨Tryz.underlying40, by kernel_rfl, by kernel_rfl, by kernel_rfl, by kernel_rfl⟩
theorem zsz40 : ((Tryz.prog.info? 83).bind (·.zero)).map (·.cells.size) = some 2 := by kernel_rfl
theorem elt46 : Elt Tryz.prog 46 30 6 := ⟨Tryz.underlying46, by kernel_rfl, by kernel_rfl, by kernel_rfl, by kernel_rfl⟩
theorem zsz46 : ((Tryz.prog.info? 30).bind (·.zero)).map (·.cells.size) = some 6 := by kernel_rfl
theorem mixed : Tryz.prog.follows .mixedOrders = true := by kernel_rfl
theorem fun5 : Fun Tryz.prog 5 := Fun.of Tryz.func5 (by kernel_rfl) (by kernel_rfl)
theorem fun6 : Fun Tryz.prog 6 := Fun.of Tryz.func6 (by kernel_rfl) (by kernel_rfl)
theorem fun7 : Fun Tryz.prog 7 := Fun.of Tryz.func7 (by kernel_rfl) (by kernel_rfl)
theorem fun8 : Fun Tryz.prog 8 := Fun.of Tryz.func8 (by kernel_rfl) (by kernel_rfl)
theorem fun9 : Fun Tryz.prog 9 := Fun.of Tryz.func9 (by kernel_rfl) (by kernel_rfl)
theorem fun10 : Fun Tryz.prog 10 := Fun.of Tryz.func10 (by kernel_rfl) (by kernel_rfl)
theorem fun11 : Fun Tryz.prog 11 := Fun.of Tryz.func11 (by kernel_rfl) (by kernel_rfl)
theorem fun12 : Fun Tryz.prog 12 := Fun.of Tryz.func12 (by kernel_rfl) (by kernel_rfl)
theorem fun13 : Fun Tryz.prog 13 := Fun.of Tryz.func13 (by kernel_rfl) (by kernel_rfl)
theorem fun14 : Fun Tryz.prog 14 := Fun.of Tryz.func14 (by kernel_rfl) (by kernel_rfl)
theorem fun15 : Fun Tryz.prog 15 := Fun.of Tryz.func15 (by kernel_rfl) (by kernel_rfl)
theorem fun16 : Fun Tryz.prog 16 := Fun.of Tryz.func16 (by kernel_rfl) (by kernel_rfl)
theorem fun17 : Fun Tryz.prog 17 := Fun.of Tryz.func17 (by kernel_rfl) (by kernel_rfl)
theorem fun18 : Fun Tryz.prog 18 := Fun.of Tryz.func18 (by kernel_rfl) (by kernel_rfl)
theorem fun19 : Fun Tryz.prog 19 := Fun.of Tryz.func19 (by kernel_rfl) (by kernel_rfl)
theorem fun20 : Fun Tryz.prog 20 := Fun.of Tryz.func20 (by kernel_rfl) (by kernel_rfl)
theorem fun21 : Fun Tryz.prog 21 := Fun.of Tryz.func21 (by kernel_rfl) (by kernel_rfl)
theorem fun22 : Fun Tryz.prog 22 := Fun.of Tryz.func22 (by kernel_rfl) (by kernel_rfl)
theorem fun23 : Fun Tryz.prog 23 := Fun.of Tryz.func23 (by kernel_rfl) (by kernel_rfl)
theorem fun44 : Fun Tryz.prog 44 := Fun.of Tryz.func44 (by kernel_rfl) (by kernel_rfl)
theorem fun46 : Fun Tryz.prog 46 := Fun.of Tryz.func46 (by kernel_rfl) (by kernel_rfl)
theorem fun49 : Fun Tryz.prog 49 := Fun.of Tryz.func49 (by kernel_rfl) (by kernel_rfl)
theorem fun51 : Fun Tryz.prog 51 := Fun.of Tryz.func51 (by kernel_rfl) (by kernel_rfl)
theorem fun54 : Fun Tryz.prog 54 := Fun.of Tryz.func54 (by kernel_rfl) (by kernel_rfl)
theorem fun59 : Fun Tryz.prog 59 := Fun.of Tryz.func59 (by kernel_rfl) (by kernel_rfl)
theorem fun66 : Fun Tryz.prog 66 := Fun.of Tryz.func66 (by kernel_rfl) (by kernel_rfl)
theorem fun67 : Fun Tryz.prog 67 := Fun.of Tryz.func67 (by kernel_rfl) (by kernel_rfl)
theorem fun90 : Fun Tryz.prog 90 := Fun.of Tryz.func90 (by kernel_rfl) (by kernel_rfl)
theorem fun91 : Fun Tryz.prog 91 := Fun.of Tryz.func91 (by kernel_rfl) (by kernel_rfl)
theorem fun93 : Fun Tryz.prog 93 := Fun.of Tryz.func93 (by kernel_rfl) (by kernel_rfl)
theorem meth49_Do : Meth Tryz.prog 49 "Do" 44 := ⟨by intro v w; kernel_rfl⟩
end Go.Proofs.M

set_option linter.unusedVariables false
set_option maxRecDepth 10000
namespace Go.Proofs.M
open Go Go.WG
structure T_api_Op where
  Kind : Int
  Path : Str
  Off : Int
  N : Int
  ID : Int
  Image : Str
deriving DecidableEq, Inhabited
def k_api_Op : Kd T_api_Op where
  sz := 6
  rep w I cs x := cs = [.int .i64 x.Kind, .string (S x.Path), .int .i64 x.Off, .int .i64 x.N, .int .i64 x.ID, .string (S x.Image)]
  len h := by obtain rfl := h; rfl
  ones h := by obtain rfl := h; rfl
  mono h _ _ := h
theorem op_api_Op {x : T_api_Op} : Opens k_api_Op x (fun _ : Unit => [.int .i64 x.Kind, .string (S x.Path), .int .i64 x.Off, .int .i64 x.N, .int .i64 x.ID, .string (S x.Image)]) (fun _ => []) := fun _ _ _ h => ⟨(), h, trivial⟩
theorem _root_.Go.WG.To.el_api_Op {n : Nat} {fr : Frm} {H G : List Asr} {K : Act → World → Prop} {a : Option Addr} {c i : Nat} {x : T_api_Op} {xs : List T_api_Op} (hp : Pull (imm k_api_Op a c xs) H G) (hx : xs[i]? = some x) (k : ∀ b r, a = some ⟨b, r, none⟩ → To n K fr (ro b (r + i * 6) [.int .i64 x.Kind, .string (S x.Path), .int .i64 x.Off, .int .i64 x.N, .int .i64 x.ID, .string (S x.Image)] :: H)) : To n K fr H :=
  To.ex (Ex.elem op_api_Op hp hx rfl) fun q e => k q.1 q.2.1 e
theorem _root_.Go.WG.To.fo_api_Op {n : Nat} {fr : Frm} {H G : List Asr} {K : Act → World → Prop} {a : Option Addr} {c i : Nat} {x : T_api_Op} {xs : List T_api_Op} (hp : Pull (own k_api_Op a c xs) H G) (hx : xs[i]? = some x) (k : ∀ b r, a = some ⟨b, r, none⟩ → To n K fr (pt b (r + i * 6) [.int .i64 x.Kind, .string (S x.Path), .int .i64 x.Off, .int .i64 x.N, .int .i64 x.ID, .string (S x.Image)] :: hole k_api_Op a c xs i :: G)) : To n K fr H :=
  To.ex (Ex.focus op_api_Op hp hx rfl) fun q e => k q.1 q.2.1 e
theorem _root_.Go.WG.Dr.el_api_Op {P : Program} {n : Nat} {fr : Frm} {H G : List Asr} {ops : Array Oper} {Q : Exit → Act → World → Prop} {M : List Nat} {sp : List Nat} {pre : List Pre} {a : Option Addr} {c i : Nat} {x : T_api_Op} {xs : List T_api_Op} (hp : Pull (imm k_api_Op a c xs) H G) (hx : xs[i]? = some x) (k : ∀ b r, a = some ⟨b, r, none⟩ → Dr P n ops Q M sp pre fr (ro b (r + i * 6) [.int .i64 x.Kind, .string (S x.Path), .int .i64 x.Off, .int .i64 x.N, .int .i64 x.ID, .string (S x.Image)] :: H)) : Dr P n ops Q M sp pre fr H :=
  Dr.exi (Ex.elem op_api_Op hp hx rfl) fun q e => k q.1 q.2.1 e
theorem _root_.Go.WG.Dr.fo_api_Op {P : Program} {n : Nat} {fr : Frm} {H G : List Asr} {ops : Array Oper} {Q : Exit → Act → World → Prop} {M : List Nat} {sp : List Nat} {pre : List Pre} {a : Option Addr} {c i : Nat} {x : T_api_Op} {xs : List T_api_Op} (hp : Pull (own k_api_Op a c xs) H G) (hx : xs[i]? = some x) (k : ∀ b r, a = some ⟨b, r, none⟩ → Dr P n ops Q M sp pre fr (pt b (r + i * 6) [.int .i64 x.Kind, .string (S x.Path), .int .i64 x.Off, .int .i64 x.N, .int .i64 x.ID, .string (S x.Image)] :: hole k_api_Op a c xs i :: G)) : Dr P n ops Q M sp pre fr H :=
  Dr.exi (Ex.focus op_api_Op hp hx rfl) fun q e => k q.1 q.2.1 e
theorem mk_api_Op {H : List Asr} {x : T_api_Op} : Imp H (rp k_api_Op [.int .i64 x.Kind, .string (S x.Path), .int .i64 x.Off, .int .i64 x.N, .int .i64 x.ID, .string (S x.Image)] x :: H) := Imp.of_sat fun w I O h => ⟨fun _ _ => False, O, fun _ _ x => x.elim, fun _ _ x => x, fun _ _ x => x.elim, rfl, h⟩
structure T_api_Result where
  Err : Int
  Kind : Int
  Size : Int
  Where : Int
  ID : Int
  Text : Str
  Names : List Str
  End : Bool
deriving DecidableEq, Inhabited
def k_api_Result : Kd T_api_Result where
  sz := 8
  rep w I cs x := ∃ a1 c1, cs = [.int .i64 x.Err, .int .i64 x.Kind, .int .i64 x.Size, .int .i64 x.Where, .int .i64 x.ID, .string (S x.Text), .slice a1 x.Names.length c1, .bool x.End] ∧ ImmAt kStr w I a1 c1 x.Names
  len h := by obtain ⟨_, _, rfl, _⟩ := h; rfl
  ones h := by obtain ⟨_, _, rfl, _⟩ := h; rfl
  mono h hI hk := by obtain ⟨a1, c1, e, h0⟩ := h; exact ⟨a1, c1, e, h0.mono hI hk⟩
theorem op_api_Result {x : T_api_Result} : Opens k_api_Result x (fun q : Option Addr × Nat => [.int .i64 x.Err, .int .i64 x.Kind, .int .i64 x.Size, .int .i64 x.Where, .int .i64 x.ID, .string (S x.Text), .slice q.1 x.Names.length q.2, .bool x.End]) (fun q => [imm kStr q.1 q.2 x.Names]) := by
  intro w I cs h
  obtain ⟨a1, c1, rfl, h0⟩ := h
  exact ⟨⟨a1, c1⟩, rfl, ⟨fun _ _ => False, fun _ _ => False, fun _ _ x => x, fun _ _ x => x, fun _ _ x => x.elim, h0, trivial⟩⟩
theorem _root_.Go.WG.To.el_api_Result {n : Nat} {fr : Frm} {H G : List Asr} {K : Act → World → Prop} {a : Option Addr} {c i : Nat} {x : T_api_Result} {xs : List T_api_Result} (hp : Pull (imm k_api_Result a c xs) H G) (hx : xs[i]? = some x) (k : ∀ b r a1 c1, a = some ⟨b, r, none⟩ → To n K fr (imm kStr a1 c1 x.Names :: ro b (r + i * 8) [.int .i64 x.Err, .int .i64 x.Kind, .int .i64 x.Size, .int .i64 x.Where, .int .i64 x.ID, .string (S x.Text), .slice a1 x.Names.length c1, .bool x.End] :: H)) : To n K fr H :=
  To.ex (Ex.elem op_api_Result hp hx rfl) fun q e => k q.1 q.2.1 q.2.2.1 q.2.2.2 e
theorem _root_.Go.WG.To.fo_api_Result {n : Nat} {fr : Frm} {H G : List Asr} {K : Act → World → Prop} {a : Option Addr} {c i : Nat} {x : T_api_Result} {xs : List T_api_Result} (hp : Pull (own k_api_Result a c xs) H G) (hx : xs[i]? = some x) (k : ∀ b r a1 c1, a = some ⟨b, r, none⟩ → To n K fr (imm kStr a1 c1 x.Names :: pt b (r + i * 8) [.int .i64 x.Err, .int .i64 x.Kind, .int .i64 x.Size, .int .i64 x.Where, .int .i64 x.ID, .string (S x.Text), .slice a1 x.Names.length c1, .bool x.End] :: hole k_api_Result a c xs i :: G)) : To n K fr H :=
  To.ex (Ex.focus op_api_Result hp hx rfl) fun q e => k q.1 q.2.1 q.2.2.1 q.2.2.2 e
theorem _root_.Go.WG.Dr.el_api_Result {P : Program} {n : Nat} {fr : Frm} {H G : List Asr} {ops : Array Oper} {Q : Exit → Act → World → Prop} {M : List Nat} {sp : List Nat} {pre : List Pre} {a : Option Addr} {c i : Nat} {x : T_api_Result} {xs : List T_api_Result} (hp : Pull (imm k_api_Result a c xs) H G) (hx : xs[i]? = some x) (k : ∀ b r a1 c1, a = some ⟨b, r, none⟩ → Dr P n ops Q M sp pre fr (imm kStr a1 c1 x.Names :: ro b (r + i * 8) [.int .i64 x.Err, .int .i64 x.Kind, .int .i64 x.Size, .int .i64 x.Where, .int .i64 x.ID, .string (S x.Text), .slice a1 x.Names.length c1, .bool x.End] :: H)) : Dr P n ops Q M sp pre fr H :=
  Dr.exi (Ex.elem op_api_Result hp hx rfl) fun q e => k q.1 q.2.1 q.2.2.1 q.2.2.2 e
theorem _root_.Go.WG.Dr.fo_api_Result {P : Program} {n : Nat} {fr : Frm} {H G : List Asr} {ops : Array Oper} {Q : Exit → Act → World → Prop} {M : List Nat} {sp : List Nat} {pre : List Pre} {a : Option Addr} {c i : Nat} {x : T_api_Result} {xs : List T_api_Result} (hp : Pull (own k_api_Result a c xs) H G) (hx : xs[i]? = some x) (k : ∀ b r a1 c1, a = some ⟨b, r, none⟩ → Dr P n ops Q M sp pre fr (imm kStr a1 c1 x.Names :: pt b (r + i * 8) [.int .i64 x.Err, .int .i64 x.Kind, .int .i64 x.Size, .int .i64 x.Where, .int .i64 x.ID, .string (S x.Text), .slice a1 x.Names.length c1, .bool x.End] :: hole k_api_Result a c xs i :: G)) : Dr P n ops Q M sp pre fr H :=
  Dr.exi (Ex.focus op_api_Result hp hx rfl) fun q e => k q.1 q.2.1 q.2.2.1 q.2.2.2 e
theorem mk_api_Result {H : List Asr} {x : T_api_Result} {a1 : Option Addr} {c1 : Nat} : Imp (imm kStr a1 c1 x.Names :: H) (rp k_api_Result [.int .i64 x.Err, .int .i64 x.Kind, .int .i64 x.Size, .int .i64 x.Where, .int .i64 x.ID, .string (S x.Text), .slice a1 x.Names.length c1, .bool x.End] x :: H) := Imp.of_sat fun w I O h => by
  obtain ⟨O0, P0, _, g0, _, h0, hs0⟩ := h
  exact ⟨fun _ _ => False, P0, fun _ _ x => x.elim, fun _ _ x => (g0 _ _ x), fun _ _ x => x.elim, ⟨a1, c1, rfl, h0⟩, hs0⟩
structure T_sched_Record where
  Client : Int
  Index : Int
  Op : T_api_Op
  Result : T_api_Result
  Call : Int
  Mark : Int
  Return : Int
deriving DecidableEq, Inhabited
def k_sched_Record : Kd T_sched_Record where
  sz := 19
  rep w I cs x := ∃ a1 c1, cs = [.int .i64 x.Client, .int .i64 x.Index, .int .i64 x.Op.Kind, .string (S x.Op.Path), .int .i64 x.Op.Off, .int .i64 x.Op.N, .int .i64 x.Op.ID, .string (S x.Op.Image), .int .i64 x.Result.Err, .int .i64 x.Result.Kind, .int .i64 x.Result.Size, .int .i64 x.Result.Where, .int .i64 x.Result.ID, .string (S x.Result.Text), .slice a1 x.Result.Names.length c1, .bool x.Result.End, .int .i64 x.Call, .int .i64 x.Mark, .int .i64 x.Return] ∧ ImmAt kStr w I a1 c1 x.Result.Names
  len h := by obtain ⟨_, _, rfl, _⟩ := h; rfl
  ones h := by obtain ⟨_, _, rfl, _⟩ := h; rfl
  mono h hI hk := by obtain ⟨a1, c1, e, h0⟩ := h; exact ⟨a1, c1, e, h0.mono hI hk⟩
theorem op_sched_Record {x : T_sched_Record} : Opens k_sched_Record x (fun q : Option Addr × Nat => [.int .i64 x.Client, .int .i64 x.Index, .int .i64 x.Op.Kind, .string (S x.Op.Path), .int .i64 x.Op.Off, .int .i64 x.Op.N, .int .i64 x.Op.ID, .string (S x.Op.Image), .int .i64 x.Result.Err, .int .i64 x.Result.Kind, .int .i64 x.Result.Size, .int .i64 x.Result.Where, .int .i64 x.Result.ID, .string (S x.Result.Text), .slice q.1 x.Result.Names.length q.2, .bool x.Result.End, .int .i64 x.Call, .int .i64 x.Mark, .int .i64 x.Return]) (fun q => [imm kStr q.1 q.2 x.Result.Names]) := by
  intro w I cs h
  obtain ⟨a1, c1, rfl, h0⟩ := h
  exact ⟨⟨a1, c1⟩, rfl, ⟨fun _ _ => False, fun _ _ => False, fun _ _ x => x, fun _ _ x => x, fun _ _ x => x.elim, h0, trivial⟩⟩
theorem _root_.Go.WG.To.el_sched_Record {n : Nat} {fr : Frm} {H G : List Asr} {K : Act → World → Prop} {a : Option Addr} {c i : Nat} {x : T_sched_Record} {xs : List T_sched_Record} (hp : Pull (imm k_sched_Record a c xs) H G) (hx : xs[i]? = some x) (k : ∀ b r a1 c1, a = some ⟨b, r, none⟩ → To n K fr (imm kStr a1 c1 x.Result.Names :: ro b (r + i * 19) [.int .i64 x.Client, .int .i64 x.Index, .int .i64 x.Op.Kind, .string (S x.Op.Path), .int .i64 x.Op.Off, .int .i64 x.Op.N, .int .i64 x.Op.ID, .string (S x.Op.Image), .int .i64 x.Result.Err, .int .i64 x.Result.Kind, .int .i64 x.Result.Size, .int .i64 x.Result.Where, .int .i64 x.Result.ID, .string (S x.Result.Text), .slice a1 x.Result.Names.length c1, .bool x.Result.End, .int .i64 x.Call, .int .i64 x.Mark, .int .i64 x.Return] :: H)) : To n K fr H :=
  To.ex (Ex.elem op_sched_Record hp hx rfl) fun q e => k q.1 q.2.1 q.2.2.1 q.2.2.2 e
theorem _root_.Go.WG.To.fo_sched_Record {n : Nat} {fr : Frm} {H G : List Asr} {K : Act → World → Prop} {a : Option Addr} {c i : Nat} {x : T_sched_Record} {xs : List T_sched_Record} (hp : Pull (own k_sched_Record a c xs) H G) (hx : xs[i]? = some x) (k : ∀ b r a1 c1, a = some ⟨b, r, none⟩ → To n K fr (imm kStr a1 c1 x.Result.Names :: pt b (r + i * 19) [.int .i64 x.Client, .int .i64 x.Index, .int .i64 x.Op.Kind, .string (S x.Op.Path), .int .i64 x.Op.Off, .int .i64 x.Op.N, .int .i64 x.Op.ID, .string (S x.Op.Image), .int .i64 x.Result.Err, .int .i64 x.Result.Kind, .int .i64 x.Result.Size, .int .i64 x.Result.Where, .int .i64 x.Result.ID, .string (S x.Result.Text), .slice a1 x.Result.Names.length c1, .bool x.Result.End, .int .i64 x.Call, .int .i64 x.Mark, .int .i64 x.Return] :: hole k_sched_Record a c xs i :: G)) : To n K fr H :=
  To.ex (Ex.focus op_sched_Record hp hx rfl) fun q e => k q.1 q.2.1 q.2.2.1 q.2.2.2 e
theorem _root_.Go.WG.Dr.el_sched_Record {P : Program} {n : Nat} {fr : Frm} {H G : List Asr} {ops : Array Oper} {Q : Exit → Act → World → Prop} {M : List Nat} {sp : List Nat} {pre : List Pre} {a : Option Addr} {c i : Nat} {x : T_sched_Record} {xs : List T_sched_Record} (hp : Pull (imm k_sched_Record a c xs) H G) (hx : xs[i]? = some x) (k : ∀ b r a1 c1, a = some ⟨b, r, none⟩ → Dr P n ops Q M sp pre fr (imm kStr a1 c1 x.Result.Names :: ro b (r + i * 19) [.int .i64 x.Client, .int .i64 x.Index, .int .i64 x.Op.Kind, .string (S x.Op.Path), .int .i64 x.Op.Off, .int .i64 x.Op.N, .int .i64 x.Op.ID, .string (S x.Op.Image), .int .i64 x.Result.Err, .int .i64 x.Result.Kind, .int .i64 x.Result.Size, .int .i64 x.Result.Where, .int .i64 x.Result.ID, .string (S x.Result.Text), .slice a1 x.Result.Names.length c1, .bool x.Result.End, .int .i64 x.Call, .int .i64 x.Mark, .int .i64 x.Return] :: H)) : Dr P n ops Q M sp pre fr H :=
  Dr.exi (Ex.elem op_sched_Record hp hx rfl) fun q e => k q.1 q.2.1 q.2.2.1 q.2.2.2 e
theorem _root_.Go.WG.Dr.fo_sched_Record {P : Program} {n : Nat} {fr : Frm} {H G : List Asr} {ops : Array Oper} {Q : Exit → Act → World → Prop} {M : List Nat} {sp : List Nat} {pre : List Pre} {a : Option Addr} {c i : Nat} {x : T_sched_Record} {xs : List T_sched_Record} (hp : Pull (own k_sched_Record a c xs) H G) (hx : xs[i]? = some x) (k : ∀ b r a1 c1, a = some ⟨b, r, none⟩ → Dr P n ops Q M sp pre fr (imm kStr a1 c1 x.Result.Names :: pt b (r + i * 19) [.int .i64 x.Client, .int .i64 x.Index, .int .i64 x.Op.Kind, .string (S x.Op.Path), .int .i64 x.Op.Off, .int .i64 x.Op.N, .int .i64 x.Op.ID, .string (S x.Op.Image), .int .i64 x.Result.Err, .int .i64 x.Result.Kind, .int .i64 x.Result.Size, .int .i64 x.Result.Where, .int .i64 x.Result.ID, .string (S x.Result.Text), .slice a1 x.Result.Names.length c1, .bool x.Result.End, .int .i64 x.Call, .int .i64 x.Mark, .int .i64 x.Return] :: hole k_sched_Record a c xs i :: G)) : Dr P n ops Q M sp pre fr H :=
  Dr.exi (Ex.focus op_sched_Record hp hx rfl) fun q e => k q.1 q.2.1 q.2.2.1 q.2.2.2 e
theorem mk_sched_Record {H : List Asr} {x : T_sched_Record} {a1 : Option Addr} {c1 : Nat} : Imp (imm kStr a1 c1 x.Result.Names :: H) (rp k_sched_Record [.int .i64 x.Client, .int .i64 x.Index, .int .i64 x.Op.Kind, .string (S x.Op.Path), .int .i64 x.Op.Off, .int .i64 x.Op.N, .int .i64 x.Op.ID, .string (S x.Op.Image), .int .i64 x.Result.Err, .int .i64 x.Result.Kind, .int .i64 x.Result.Size, .int .i64 x.Result.Where, .int .i64 x.Result.ID, .string (S x.Result.Text), .slice a1 x.Result.Names.length c1, .bool x.Result.End, .int .i64 x.Call, .int .i64 x.Mark, .int .i64 x.Return] x :: H) := Imp.of_sat fun w I O h => by
  obtain ⟨O0, P0, _, g0, _, h0, hs0⟩ := h
  exact ⟨fun _ _ => False, P0, fun _ _ x => x.elim, fun _ _ x => (g0 _ _ x), fun _ _ x => x.elim, ⟨a1, c1, rfl, h0⟩, hs0⟩
structure T_api_Extent where
  Off : Int
  Data : Str
deriving DecidableEq, Inhabited
def k_api_Extent : Kd T_api_Extent where
  sz := 2
  rep w I cs x := cs = [.int .i64 x.Off, .string (S x.Data)]
  len h := by obtain rfl := h; rfl
  ones h := by obtain rfl := h; rfl
  mono h _ _ := h
theorem op_api_Extent {x : T_api_Extent} : Opens k_api_Extent x (fun _ : Unit => [.int .i64 x.Off, .string (S x.Data)]) (fun _ => []) := fun _ _ _ h => ⟨(), h, trivial⟩
theorem _root_.Go.WG.To.el_api_Extent {n : Nat} {fr : Frm} {H G : List Asr} {K : Act → World → Prop} {a : Option Addr} {c i : Nat} {x : T_api_Extent} {xs : List T_api_Extent} (hp : Pull (imm k_api_Extent a c xs) H G) (hx : xs[i]? = some x) (k : ∀ b r, a = some ⟨b, r, none⟩ → To n K fr (ro b (r + i * 2) [.int .i64 x.Off, .string (S x.Data)] :: H)) : To n K fr H :=
  To.ex (Ex.elem op_api_Extent hp hx rfl) fun q e => k q.1 q.2.1 e
theorem _root_.Go.WG.To.fo_api_Extent {n : Nat} {fr : Frm} {H G : List Asr} {K : Act → World → Prop} {a : Option Addr} {c i : Nat} {x : T_api_Extent} {xs : List T_api_Extent} (hp : Pull (own k_api_Extent a c xs) H G) (hx : xs[i]? = some x) (k : ∀ b r, a = some ⟨b, r, none⟩ → To n K fr (pt b (r + i * 2) [.int .i64 x.Off, .string (S x.Data)] :: hole k_api_Extent a c xs i :: G)) : To n K fr H :=
  To.ex (Ex.focus op_api_Extent hp hx rfl) fun q e => k q.1 q.2.1 e
theorem _root_.Go.WG.Dr.el_api_Extent {P : Program} {n : Nat} {fr : Frm} {H G : List Asr} {ops : Array Oper} {Q : Exit → Act → World → Prop} {M : List Nat} {sp : List Nat} {pre : List Pre} {a : Option Addr} {c i : Nat} {x : T_api_Extent} {xs : List T_api_Extent} (hp : Pull (imm k_api_Extent a c xs) H G) (hx : xs[i]? = some x) (k : ∀ b r, a = some ⟨b, r, none⟩ → Dr P n ops Q M sp pre fr (ro b (r + i * 2) [.int .i64 x.Off, .string (S x.Data)] :: H)) : Dr P n ops Q M sp pre fr H :=
  Dr.exi (Ex.elem op_api_Extent hp hx rfl) fun q e => k q.1 q.2.1 e
theorem _root_.Go.WG.Dr.fo_api_Extent {P : Program} {n : Nat} {fr : Frm} {H G : List Asr} {ops : Array Oper} {Q : Exit → Act → World → Prop} {M : List Nat} {sp : List Nat} {pre : List Pre} {a : Option Addr} {c i : Nat} {x : T_api_Extent} {xs : List T_api_Extent} (hp : Pull (own k_api_Extent a c xs) H G) (hx : xs[i]? = some x) (k : ∀ b r, a = some ⟨b, r, none⟩ → Dr P n ops Q M sp pre fr (pt b (r + i * 2) [.int .i64 x.Off, .string (S x.Data)] :: hole k_api_Extent a c xs i :: G)) : Dr P n ops Q M sp pre fr H :=
  Dr.exi (Ex.focus op_api_Extent hp hx rfl) fun q e => k q.1 q.2.1 e
theorem mk_api_Extent {H : List Asr} {x : T_api_Extent} : Imp H (rp k_api_Extent [.int .i64 x.Off, .string (S x.Data)] x :: H) := Imp.of_sat fun w I O h => ⟨fun _ _ => False, O, fun _ _ x => x.elim, fun _ _ x => x, fun _ _ x => x.elim, rfl, h⟩
structure T_api_Node where
  Kind : Int
  Opaque : Bool
  Names : List Str
  Items : List T_api_Node
  Size : Int
  Extents : List T_api_Extent
  Target : Str
deriving Inhabited
def nodeRep (w : World) (I : Fp) (cs : List Value) (x : T_api_Node) : Prop :=
  ∃ a1 c1 a2 c2 a3 c3, cs = [.int .i64 x.Kind, .bool x.Opaque, .slice a1 x.Names.length c1, .slice a2 x.Items.length c2, .int .i64 x.Size, .slice a3 x.Extents.length c3, .string (S x.Target)] ∧ ImmAt kStr w I a1 c1 x.Names ∧
    (x.Items.length ≤ c2 ∧ ∀ i (hi : i < x.Items.length), ∃ b o cs, a2 = some ⟨b, o, none⟩ ∧ nodeRep w I cs x.Items[i] ∧ ∀ j (hj : j < cs.length), I b (o + i * 7 + j) ∧ ∃ fl, at_ w b (o + i * 7 + j) = .cell cs[j] fl) ∧
    ImmAt k_api_Extent w I a3 c3 x.Extents
termination_by SizeOf.sizeOf x
decreasing_by
  have h1 := List.sizeOf_lt_of_mem (List.getElem_mem hi)
  have h2 : SizeOf.sizeOf x.Items < SizeOf.sizeOf x := by cases x; simp only [T_api_Node.mk.sizeOf_spec]; omega
  omega
theorem nodeRep.mono {w w' : World} {I I' : Fp} (hI : ∀ b o, I b o → I' b o) (hk : Keeps w w' I) : ∀ {x : T_api_Node} {cs : List Value}, nodeRep w I cs x → nodeRep w' I' cs x := by
  intro x
  induction h : SizeOf.sizeOf x using Nat.strongRecOn generalizing x with
  | _ n ih =>
    intro cs hr
    subst h
    rw [nodeRep] at hr ⊢
    obtain ⟨a1, c1, a2, c2, a3, c3, e, h1, ⟨h2, h3⟩, h4⟩ := hr
    refine ⟨a1, c1, a2, c2, a3, c3, e, h1.mono hI hk, ⟨h2, fun i hi => ?_⟩, h4.mono hI hk⟩
    obtain ⟨b, o, cs', ha, hr, hc⟩ := h3 i hi
    have g1 := List.sizeOf_lt_of_mem (List.getElem_mem hi)
    have g2 : SizeOf.sizeOf x.Items < SizeOf.sizeOf x := by cases x; simp only [T_api_Node.mk.sizeOf_spec]; omega
    exact ⟨b, o, cs', ha, ih _ (by omega) rfl hr, fun j hj => ⟨hI _ _ (hc j hj).1, (hc j hj).2.imp fun _ hf => (hk.same _ _ (hc j hj).1).trans hf⟩⟩
def k_api_Node : Kd T_api_Node where
  sz := 7
  rep := nodeRep
  len h := by rw [nodeRep] at h; obtain ⟨_, _, _, _, _, _, rfl, _⟩ := h; rfl
  ones h := by rw [nodeRep] at h; obtain ⟨_, _, _, _, _, _, rfl, _⟩ := h; rfl
  mono h hI hk := nodeRep.mono hI hk h
theorem rep_node {w : World} {I : Fp} {cs : List Value} {x : T_api_Node} : k_api_Node.rep w I cs x ↔ ∃ a1 c1 a2 c2 a3 c3, cs = [.int .i64 x.Kind, .bool x.Opaque, .slice a1 x.Names.length c1, .slice a2 x.Items.length c2, .int .i64 x.Size, .slice a3 x.Extents.length c3, .string (S x.Target)] ∧
    ImmAt kStr w I a1 c1 x.Names ∧ ImmAt k_api_Node w I a2 c2 x.Items ∧ ImmAt k_api_Extent w I a3 c3 x.Extents := by
  show nodeRep w I cs x ↔ _
  rw [nodeRep]; rfl

theorem op_api_Node {x : T_api_Node} : Opens k_api_Node x (fun q : Option Addr × Nat × Option Addr × Nat × Option Addr × Nat => [.int .i64 x.Kind, .bool x.Opaque, .slice q.1 x.Names.length q.2.1, .slice q.2.2.1 x.Items.length q.2.2.2.1, .int .i64 x.Size, .slice q.2.2.2.2.1 x.Extents.length q.2.2.2.2.2, .string (S x.Target)]) (fun q => [imm kStr q.1 q.2.1 x.Names, imm k_api_Node q.2.2.1 q.2.2.2.1 x.Items, imm k_api_Extent q.2.2.2.2.1 q.2.2.2.2.2 x.Extents]) := by
  intro w I cs h
  rw [rep_node] at h;
  obtain ⟨a1, c1, a2, c2, a3, c3, rfl, h0, h1, h2⟩ := h
  exact ⟨⟨a1, c1, a2, c2, a3, c3⟩, rfl, ⟨fun _ _ => False, fun _ _ => False, fun _ _ x => x, fun _ _ x => x, fun _ _ x => x.elim, h0, ⟨fun _ _ => False, fun _ _ => False, fun _ _ x => x, fun _ _ x => x, fun _ _ x => x.elim, h1, ⟨fun _ _ => False, fun _ _ => False, fun _ _ x => x, fun _ _ x => x, fun _ _ x => x.elim, h2, trivial⟩⟩⟩⟩
theorem _root_.Go.WG.To.el_api_Node {n : Nat} {fr : Frm} {H G : List Asr} {K : Act → World → Prop} {a : Option Addr} {c i : Nat} {x : T_api_Node} {xs : List T_api_Node} (hp : Pull (imm k_api_Node a c xs) H G) (hx : xs[i]? = some x) (k : ∀ b r a1 c1 a2 c2 a3 c3, a = some ⟨b, r, none⟩ → To n K fr (imm kStr a1 c1 x.Names :: imm k_api_Node a2 c2 x.Items :: imm k_api_Extent a3 c3 x.Extents :: ro b (r + i * 7) [.int .i64 x.Kind, .bool x.Opaque, .slice a1 x.Names.length c1, .slice a2 x.Items.length c2, .int .i64 x.Size, .slice a3 x.Extents.length c3, .string (S x.Target)] :: H)) : To n K fr H :=
  To.ex (Ex.elem op_api_Node hp hx rfl) fun q e => k q.1 q.2.1 q.2.2.1 q.2.2.2.1 q.2.2.2.2.1 q.2.2.2.2.2.1 q.2.2.2.2.2.2.1 q.2.2.2.2.2.2.2 e
theorem _root_.Go.WG.To.fo_api_Node {n : Nat} {fr : Frm} {H G : List Asr} {K : Act → World → Prop} {a : Option Addr} {c i : Nat} {x : T_api_Node} {xs : List T_api_Node} (hp : Pull (own k_api_Node a c xs) H G) (hx : xs[i]? = some x) (k : ∀ b r a1 c1 a2 c2 a3 c3, a = some ⟨b, r, none⟩ → To n K fr (imm kStr a1 c1 x.Names :: imm k_api_Node a2 c2 x.Items :: imm k_api_Extent a3 c3 x.Extents :: pt b (r + i * 7) [.int .i64 x.Kind, .bool x.Opaque, .slice a1 x.Names.length c1, .slice a2 x.Items.length c2, .int .i64 x.Size, .slice a3 x.Extents.length c3, .string (S x.Target)] :: hole k_api_Node a c xs i :: G)) : To n K fr H :=
  To.ex (Ex.focus op_api_Node hp hx rfl) fun q e => k q.1 q.2.1 q.2.2.1 q.2.2.2.1 q.2.2.2.2.1 q.2.2.2.2.2.1 q.2.2.2.2.2.2.1 q.2.2.2.2.2.2.2 e
theorem _root_.Go.WG.Dr.el_api_Node {P : Program} {n : Nat} {fr : Frm} {H G : List Asr} {ops : Array Oper} {Q : Exit → Act → World → Prop} {M : List Nat} {sp : List Nat} {pre : List Pre} {a : Option Addr} {c i : Nat} {x : T_api_Node} {xs : List T_api_Node} (hp : Pull (imm k_api_Node a c xs) H G) (hx : xs[i]? = some x) (k : ∀ b r a1 c1 a2 c2 a3 c3, a = some ⟨b, r, none⟩ → Dr P n ops Q M sp pre fr (imm kStr a1 c1 x.Names :: imm k_api_Node a2 c2 x.Items :: imm k_api_Extent a3 c3 x.Extents :: ro b (r + i * 7) [.int .i64 x.Kind, .bool x.Opaque, .slice a1 x.Names.length c1, .slice a2 x.Items.length c2, .int .i64 x.Size, .slice a3 x.Extents.length c3, .string (S x.Target)] :: H)) : Dr P n ops Q M sp pre fr H :=
  Dr.exi (Ex.elem op_api_Node hp hx rfl) fun q e => k q.1 q.2.1 q.2.2.1 q.2.2.2.1 q.2.2.2.2.1 q.2.2.2.2.2.1 q.2.2.2.2.2.2.1 q.2.2.2.2.2.2.2 e
theorem _root_.Go.WG.Dr.fo_api_Node {P : Program} {n : Nat} {fr : Frm} {H G : List Asr} {ops : Array Oper} {Q : Exit → Act → World → Prop} {M : List Nat} {sp : List Nat} {pre : List Pre} {a : Option Addr} {c i : Nat} {x : T_api_Node} {xs : List T_api_Node} (hp : Pull (own k_api_Node a c xs) H G) (hx : xs[i]? = some x) (k : ∀ b r a1 c1 a2 c2 a3 c3, a = some ⟨b, r, none⟩ → Dr P n ops Q M sp pre fr (imm kStr a1 c1 x.Names :: imm k_api_Node a2 c2 x.Items :: imm k_api_Extent a3 c3 x.Extents :: pt b (r + i * 7) [.int .i64 x.Kind, .bool x.Opaque, .slice a1 x.Names.length c1, .slice a2 x.Items.length c2, .int .i64 x.Size, .slice a3 x.Extents.length c3, .string (S x.Target)] :: hole k_api_Node a c xs i :: G)) : Dr P n ops Q M sp pre fr H :=
  Dr.exi (Ex.focus op_api_Node hp hx rfl) fun q e => k q.1 q.2.1 q.2.2.1 q.2.2.2.1 q.2.2.2.2.1 q.2.2.2.2.2.1 q.2.2.2.2.2.2.1 q.2.2.2.2.2.2.2 e
theorem mk_api_Node {H : List Asr} {x : T_api_Node} {a1 : Option Addr} {c1 : Nat} {a2 : Option Addr} {c2 : Nat} {a3 : Option Addr} {c3 : Nat} : Imp (imm kStr a1 c1 x.Names :: imm k_api_Node a2 c2 x.Items :: imm k_api_Extent a3 c3 x.Extents :: H) (rp k_api_Node [.int .i64 x.Kind, .bool x.Opaque, .slice a1 x.Names.length c1, .slice a2 x.Items.length c2, .int .i64 x.Size, .slice a3 x.Extents.length c3, .string (S x.Target)] x :: H) := Imp.of_sat fun w I O h => by
  obtain ⟨O0, P0, _, g0, _, h0, hs0⟩ := h
  obtain ⟨O1, P1, _, g1, _, h1, hs1⟩ := hs0
  obtain ⟨O2, P2, _, g2, _, h2, hs2⟩ := hs1
  exact ⟨fun _ _ => False, P2, fun _ _ x => x.elim, fun _ _ x => (g0 _ _ (g1 _ _ (g2 _ _ x))), fun _ _ x => x.elim, rep_node.2 ⟨a1, c1, a2, c2, a3, c3, rfl, h0, h1, h2⟩, hs2⟩
structure T_branch_inode where
  Node : T_api_Node
  idsF : List Int
deriving Inhabited
def k_branch_inode : Kd T_branch_inode where
  sz := 8
  rep w I cs x := ∃ a1 c1 a2 c2 a3 c3 a4 c4, cs = [.int .i64 x.Node.Kind, .bool x.Node.Opaque, .slice a1 x.Node.Names.length c1, .slice a2 x.Node.Items.length c2, .int .i64 x.Node.Size, .slice a3 x.Node.Extents.length c3, .string (S x.Node.Target), .slice a4 x.idsF.length c4] ∧ ImmAt kStr w I a1 c1 x.Node.Names ∧ ImmAt k_api_Node w I a2 c2 x.Node.Items ∧ ImmAt k_api_Extent w I a3 c3 x.Node.Extents ∧ ImmAt (kInt .i64) w I a4 c4 x.idsF
  len h := by obtain ⟨_, _, _, _, _, _, _, _, rfl, _⟩ := h; rfl
  ones h := by obtain ⟨_, _, _, _, _, _, _, _, rfl, _⟩ := h; rfl
  mono h hI hk := by obtain ⟨a1, c1, a2, c2, a3, c3, a4, c4, e, h0, h1, h2, h3⟩ := h; exact ⟨a1, c1, a2, c2, a3, c3, a4, c4, e, h0.mono hI hk, h1.mono hI hk, h2.mono hI hk, h3.mono hI hk⟩
theorem op_branch_inode {x : T_branch_inode} : Opens k_branch_inode x (fun q : Option Addr × Nat × Option Addr × Nat × Option Addr × Nat × Option Addr × Nat => [.int .i64 x.Node.Kind, .bool x.Node.Opaque, .slice q.1 x.Node.Names.length q.2.1, .slice q.2.2.1 x.Node.Items.length q.2.2.2.1, .int .i64 x.Node.Size, .slice q.2.2.2.2.1 x.Node.Extents.length q.2.2.2.2.2.1, .string (S x.Node.Target), .slice q.2.2.2.2.2.2.1 x.idsF.length q.2.2.2.2.2.2.2]) (fun q => [imm kStr q.1 q.2.1 x.Node.Names, imm k_api_Node q.2.2.1 q.2.2.2.1 x.Node.Items, imm k_api_Extent q.2.2.2.2.1 q.2.2.2.2.2.1 x.Node.Extents, imm (kInt .i64) q.2.2.2.2.2.2.1 q.2.2.2.2.2.2.2 x.idsF]) := by
  intro w I cs h
  obtain ⟨a1, c1, a2, c2, a3, c3, a4, c4, rfl, h0, h1, h2, h3⟩ := h
  exact ⟨⟨a1, c1, a2, c2, a3, c3, a4, c4⟩, rfl, ⟨fun _ _ => False, fun _ _ => False, fun _ _ x => x, fun _ _ x => x, fun _ _ x => x.elim, h0, ⟨fun _ _ => False, fun _ _ => False, fun _ _ x => x, fun _ _ x => x, fun _ _ x => x.elim, h1, ⟨fun _ _ => False, fun _ _ => False, fun _ _ x => x, fun _ _ x => x, fun _ _ x => x.elim, h2, ⟨fun _ _ => False, fun _ _ => False, fun _ _ x => x, fun _ _ x => x, fun _ _ x => x.elim, h3, trivial⟩⟩⟩⟩⟩
theorem _root_.Go.WG.To.el_branch_inode {n : Nat} {fr : Frm} {H G : List Asr} {K : Act → World → Prop} {a : Option Addr} {c i : Nat} {x : T_branch_inode} {xs : List T_branch_inode} (hp : Pull (imm k_branch_inode a c xs) H G) (hx : xs[i]? = some x) (k : ∀ b r a1 c1 a2 c2 a3 c3 a4 c4, a = some ⟨b, r, none⟩ → To n K fr (imm kStr a1 c1 x.Node.Names :: imm k_api_Node a2 c2 x.Node.Items :: imm k_api_Extent a3 c3 x.Node.Extents :: imm (kInt .i64) a4 c4 x.idsF :: ro b (r + i * 8) [.int .i64 x.Node.Kind, .bool x.Node.Opaque, .slice a1 x.Node.Names.length c1, .slice a2 x.Node.Items.length c2, .int .i64 x.Node.Size, .slice a3 x.Node.Extents.length c3, .string (S x.Node.Target), .slice a4 x.idsF.length c4] :: H)) : To n K fr H :=
  To.ex (Ex.elem op_branch_inode hp hx rfl) fun q e => k q.1 q.2.1 q.2.2.1 q.2.2.2.1 q.2.2.2.2.1 q.2.2.2.2.2.1 q.2.2.2.2.2.2.1 q.2.2.2.2.2.2.2.1 q.2.2.2.2.2.2.2.2.1 q.2.2.2.2.2.2.2.2.2 e
theorem _root_.Go.WG.To.fo_branch_inode {n : Nat} {fr : Frm} {H G : List Asr} {K : Act → World → Prop} {a : Option Addr} {c i : Nat} {x : T_branch_inode} {xs : List T_branch_inode} (hp : Pull (own k_branch_inode a c xs) H G) (hx : xs[i]? = some x) (k : ∀ b r a1 c1 a2 c2 a3 c3 a4 c4, a = some ⟨b, r, none⟩ → To n K fr (imm kStr a1 c1 x.Node.Names :: imm k_api_Node a2 c2 x.Node.Items :: imm k_api_Extent a3 c3 x.Node.Extents :: imm (kInt .i64) a4 c4 x.idsF :: pt b (r + i * 8) [.int .i64 x.Node.Kind, .bool x.Node.Opaque, .slice a1 x.Node.Names.length c1, .slice a2 x.Node.Items.length c2, .int .i64 x.Node.Size, .slice a3 x.Node.Extents.length c3, .string (S x.Node.Target), .slice a4 x.idsF.length c4] :: hole k_branch_inode a c xs i :: G)) : To n K fr H :=
  To.ex (Ex.focus op_branch_inode hp hx rfl) fun q e => k q.1 q.2.1 q.2.2.1 q.2.2.2.1 q.2.2.2.2.1 q.2.2.2.2.2.1 q.2.2.2.2.2.2.1 q.2.2.2.2.2.2.2.1 q.2.2.2.2.2.2.2.2.1 q.2.2.2.2.2.2.2.2.2 e
theorem _root_.Go.WG.Dr.el_branch_inode {P : Program} {n : Nat} {fr : Frm} {H G : List Asr} {ops : Array Oper} {Q : Exit → Act → World → Prop} {M : List Nat} {sp : List Nat} {pre : List Pre} {a : Option Addr} {c i : Nat} {x : T_branch_inode} {xs : List T_branch_inode} (hp : Pull (imm k_branch_inode a c xs) H G) (hx : xs[i]? = some x) (k : ∀ b r a1 c1 a2 c2 a3 c3 a4 c4, a = some ⟨b, r, none⟩ → Dr P n ops Q M sp pre fr (imm kStr a1 c1 x.Node.Names :: imm k_api_Node a2 c2 x.Node.Items :: imm k_api_Extent a3 c3 x.Node.Extents :: imm (kInt .i64) a4 c4 x.idsF :: ro b (r + i * 8) [.int .i64 x.Node.Kind, .bool x.Node.Opaque, .slice a1 x.Node.Names.length c1, .slice a2 x.Node.Items.length c2, .int .i64 x.Node.Size, .slice a3 x.Node.Extents.length c3, .string (S x.Node.Target), .slice a4 x.idsF.length c4] :: H)) : Dr P n ops Q M sp pre fr H :=
  Dr.exi (Ex.elem op_branch_inode hp hx rfl) fun q e => k q.1 q.2.1 q.2.2.1 q.2.2.2.1 q.2.2.2.2.1 q.2.2.2.2.2.1 q.2.2.2.2.2.2.1 q.2.2.2.2.2.2.2.1 q.2.2.2.2.2.2.2.2.1 q.2.2.2.2.2.2.2.2.2 e
theorem _root_.Go.WG.Dr.fo_branch_inode {P : Program} {n : Nat} {fr : Frm} {H G : List Asr} {ops : Array Oper} {Q : Exit → Act → World → Prop} {M : List Nat} {sp : List Nat} {pre : List Pre} {a : Option Addr} {c i : Nat} {x : T_branch_inode} {xs : List T_branch_inode} (hp : Pull (own k_branch_inode a c xs) H G) (hx : xs[i]? = some x) (k : ∀ b r a1 c1 a2 c2 a3 c3 a4 c4, a = some ⟨b, r, none⟩ → Dr P n ops Q M sp pre fr (imm kStr a1 c1 x.Node.Names :: imm k_api_Node a2 c2 x.Node.Items :: imm k_api_Extent a3 c3 x.Node.Extents :: imm (kInt .i64) a4 c4 x.idsF :: pt b (r + i * 8) [.int .i64 x.Node.Kind, .bool x.Node.Opaque, .slice a1 x.Node.Names.length c1, .slice a2 x.Node.Items.length c2, .int .i64 x.Node.Size, .slice a3 x.Node.Extents.length c3, .string (S x.Node.Target), .slice a4 x.idsF.length c4] :: hole k_branch_inode a c xs i :: G)) : Dr P n ops Q M sp pre fr H :=
  Dr.exi (Ex.focus op_branch_inode hp hx rfl) fun q e => k q.1 q.2.1 q.2.2.1 q.2.2.2.1 q.2.2.2.2.1 q.2.2.2.2.2.1 q.2.2.2.2.2.2.1 q.2.2.2.2.2.2.2.1 q.2.2.2.2.2.2.2.2.1 q.2.2.2.2.2.2.2.2.2 e
theorem mk_branch_inode {H : List Asr} {x : T_branch_inode} {a1 : Option Addr} {c1 : Nat} {a2 : Option Addr} {c2 : Nat} {a3 : Option Addr} {c3 : Nat} {a4 : Option Addr} {c4 : Nat} : Imp (imm kStr a1 c1 x.Node.Names :: imm k_api_Node a2 c2 x.Node.Items :: imm k_api_Extent a3 c3 x.Node.Extents :: imm (kInt .i64) a4 c4 x.idsF :: H) (rp k_branch_inode [.int .i64 x.Node.Kind, .bool x.Node.Opaque, .slice a1 x.Node.Names.length c1, .slice a2 x.Node.Items.length c2, .int .i64 x.Node.Size, .slice a3 x.Node.Extents.length c3, .string (S x.Node.Target), .slice a4 x.idsF.length c4] x :: H) := Imp.of_sat fun w I O h => by
  obtain ⟨O0, P0, _, g0, _, h0, hs0⟩ := h
  obtain ⟨O1, P1, _, g1, _, h1, hs1⟩ := hs0
  obtain ⟨O2, P2, _, g2, _, h2, hs2⟩ := hs1
  obtain ⟨O3, P3, _, g3, _, h3, hs3⟩ := hs2
  exact ⟨fun _ _ => False, P3, fun _ _ x => x.elim, fun _ _ x => (g0 _ _ (g1 _ _ (g2 _ _ (g3 _ _ x)))), fun _ _ x => x.elim, ⟨a1, c1, a2, c2, a3, c3, a4, c4, rfl, h0, h1, h2, h3⟩, hs3⟩
structure T_branch_Branch where
  tableF : List T_branch_inode
deriving Inhabited
def k_branch_Branch : Kd T_branch_Branch where
  sz := 1
  rep w I cs x := ∃ a1 c1, cs = [.slice a1 x.tableF.length c1] ∧ ImmAt k_branch_inode w I a1 c1 x.tableF
  len h := by obtain ⟨_, _, rfl, _⟩ := h; rfl
  ones h := by obtain ⟨_, _, rfl, _⟩ := h; rfl
  mono h hI hk := by obtain ⟨a1, c1, e, h0⟩ := h; exact ⟨a1, c1, e, h0.mono hI hk⟩
theorem op_branch_Branch {x : T_branch_Branch} : Opens k_branch_Branch x (fun q : Option Addr × Nat => [.slice q.1 x.tableF.length q.2]) (fun q => [imm k_branch_inode q.1 q.2 x.tableF]) := by
  intro w I cs h
  obtain ⟨a1, c1, rfl, h0⟩ := h
  exact ⟨⟨a1, c1⟩, rfl, ⟨fun _ _ => False, fun _ _ => False, fun _ _ x => x, fun _ _ x => x, fun _ _ x => x.elim, h0, trivial⟩⟩
theorem _root_.Go.WG.To.el_branch_Branch {n : Nat} {fr : Frm} {H G : List Asr} {K : Act → World → Prop} {a : Option Addr} {c i : Nat} {x : T_branch_Branch} {xs : List T_branch_Branch} (hp : Pull (imm k_branch_Branch a c xs) H G) (hx : xs[i]? = some x) (k : ∀ b r a1 c1, a = some ⟨b, r, none⟩ → To n K fr (imm k_branch_inode a1 c1 x.tableF :: ro b (r + i * 1) [.slice a1 x.tableF.length c1] :: H)) : To n K fr H :=
  To.ex (Ex.elem op_branch_Branch hp hx rfl) fun q e => k q.1 q.2.1 q.2.2.1 q.2.2.2 e
theorem _root_.Go.WG.To.fo_branch_Branch {n : Nat} {fr : Frm} {H G : List Asr} {K : Act → World → Prop} {a : Option Addr} {c i : Nat} {x : T_branch_Branch} {xs : List T_branch_Branch} (hp : Pull (own k_branch_Branch a c xs) H G) (hx : xs[i]? = some x) (k : ∀ b r a1 c1, a = some ⟨b, r, none⟩ → To n K fr (imm k_branch_inode a1 c1 x.tableF :: pt b (r + i * 1) [.slice a1 x.tableF.length c1] :: hole k_branch_Branch a c xs i :: G)) : To n K fr H :=
  To.ex (Ex.focus op_branch_Branch hp hx rfl) fun q e => k q.1 q.2.1 q.2.2.1 q.2.2.2 e
theorem _root_.Go.WG.To.ipo_branch_Branch {n : Nat} {fr : Frm} {H G : List Asr} {K : Act → World → Prop} {a : Option Addr} {y : Option T_branch_Branch} {x : T_branch_Branch} (hp : Pull (ip k_branch_Branch a y) H G) (hx : y = some x) (k : ∀ b r a1 c1, a = some ⟨b, r, none⟩ → To n K fr (imm k_branch_inode a1 c1 x.tableF :: ro b r [.slice a1 x.tableF.length c1] :: H)) : To n K fr H :=
  To.ex (Ex.ip_open op_branch_Branch hp hx) fun q e => k q.1 q.2.1 q.2.2.1 q.2.2.2 e
theorem _root_.Go.WG.Dr.el_branch_Branch {P : Program} {n : Nat} {fr : Frm} {H G : List Asr} {ops : Array Oper} {Q : Exit → Act → World → Prop} {M : List Nat} {sp : List Nat} {pre : List Pre} {a : Option Addr} {c i : Nat} {x : T_branch_Branch} {xs : List T_branch_Branch} (hp : Pull (imm k_branch_Branch a c xs) H G) (hx : xs[i]? = some x) (k : ∀ b r a1 c1, a = some ⟨b, r, none⟩ → Dr P n ops Q M sp pre fr (imm k_branch_inode a1 c1 x.tableF :: ro b (r + i * 1) [.slice a1 x.tableF.length c1] :: H)) : Dr P n ops Q M sp pre fr H :=
  Dr.exi (Ex.elem op_branch_Branch hp hx rfl) fun q e => k q.1 q.2.1 q.2.2.1 q.2.2.2 e
theorem _root_.Go.WG.Dr.fo_branch_Branch {P : Program} {n : Nat} {fr : Frm} {H G : List Asr} {ops : Array Oper} {Q : Exit → Act → World → Prop} {M : List Nat} {sp : List Nat} {pre : List Pre} {a : Option Addr} {c i : Nat} {x : T_branch_Branch} {xs : List T_branch_Branch} (hp : Pull (own k_branch_Branch a c xs) H G) (hx : xs[i]? = some x) (k : ∀ b r a1 c1, a = some ⟨b, r, none⟩ → Dr P n ops Q M sp pre fr (imm k_branch_inode a1 c1 x.tableF :: pt b (r + i * 1) [.slice a1 x.tableF.length c1] :: hole k_branch_Branch a c xs i :: G)) : Dr P n ops Q M sp pre fr H :=
  Dr.exi (Ex.focus op_branch_Branch hp hx rfl) fun q e => k q.1 q.2.1 q.2.2.1 q.2.2.2 e
theorem _root_.Go.WG.Dr.ipo_branch_Branch {P : Program} {n : Nat} {fr : Frm} {H G : List Asr} {ops : Array Oper} {Q : Exit → Act → World → Prop} {M : List Nat} {sp : List Nat} {pre : List Pre} {a : Option Addr} {y : Option T_branch_Branch} {x : T_branch_Branch} (hp : Pull (ip k_branch_Branch a y) H G) (hx : y = some x) (k : ∀ b r a1 c1, a = some ⟨b, r, none⟩ → Dr P n ops Q M sp pre fr (imm k_branch_inode a1 c1 x.tableF :: ro b r [.slice a1 x.tableF.length c1] :: H)) : Dr P n ops Q M sp pre fr H :=
  Dr.exi (Ex.ip_open op_branch_Branch hp hx) fun q e => k q.1 q.2.1 q.2.2.1 q.2.2.2 e
theorem mk_branch_Branch {H : List Asr} {x : T_branch_Branch} {a1 : Option Addr} {c1 : Nat} : Imp (imm k_branch_inode a1 c1 x.tableF :: H) (rp k_branch_Branch [.slice a1 x.tableF.length c1] x :: H) := Imp.of_sat fun w I O h => by
  obtain ⟨O0, P0, _, g0, _, h0, hs0⟩ := h
  exact ⟨fun _ _ => False, P0, fun _ _ x => x.elim, fun _ _ x => (g0 _ _ x), fun _ _ x => x.elim, ⟨a1, c1, rfl, h0⟩, hs0⟩
structure T_stack_mount where
  idF : Int
  Branch : Option T_branch_Branch
deriving Inhabited
def k_stack_mount : Kd T_stack_mount where
  sz := 2
  rep w I cs x := ∃ a1, cs = [.int .i64 x.idF, .pointer a1] ∧ IpAt k_branch_Branch w I a1 x.Branch
  len h := by obtain ⟨_, rfl, _⟩ := h; rfl
  ones h := by obtain ⟨_, rfl, _⟩ := h; rfl
  mono h hI hk := by obtain ⟨a1, e, h0⟩ := h; exact ⟨a1, e, h0.mono hI hk⟩
theorem op_stack_mount {x : T_stack_mount} : Opens k_stack_mount x (fun q : Option Addr => [.int .i64 x.idF, .pointer q]) (fun q => [ip k_branch_Branch q x.Branch]) := by
  intro w I cs h
  obtain ⟨a1, rfl, h0⟩ := h
  exact ⟨a1, rfl, ⟨fun _ _ => False, fun _ _ => False, fun _ _ x => x, fun _ _ x => x, fun _ _ x => x.elim, h0, trivial⟩⟩
theorem _root_.Go.WG.To.el_stack_mount {n : Nat} {fr : Frm} {H G : List Asr} {K : Act → World → Prop} {a : Option Addr} {c i : Nat} {x : T_stack_mount} {xs : List T_stack_mount} (hp : Pull (imm k_stack_mount a c xs) H G) (hx : xs[i]? = some x) (k : ∀ b r a1, a = some ⟨b, r, none⟩ → To n K fr (ip k_branch_Branch a1 x.Branch :: ro b (r + i * 2) [.int .i64 x.idF, .pointer a1] :: H)) : To n K fr H :=
  To.ex (Ex.elem op_stack_mount hp hx rfl) fun q e => k q.1 q.2.1 q.2.2 e
theorem _root_.Go.WG.To.fo_stack_mount {n : Nat} {fr : Frm} {H G : List Asr} {K : Act → World → Prop} {a : Option Addr} {c i : Nat} {x : T_stack_mount} {xs : List T_stack_mount} (hp : Pull (own k_stack_mount a c xs) H G) (hx : xs[i]? = some x) (k : ∀ b r a1, a = some ⟨b, r, none⟩ → To n K fr (ip k_branch_Branch a1 x.Branch :: pt b (r + i * 2) [.int .i64 x.idF, .pointer a1] :: hole k_stack_mount a c xs i :: G)) : To n K fr H :=
  To.ex (Ex.focus op_stack_mount hp hx rfl) fun q e => k q.1 q.2.1 q.2.2 e
theorem _root_.Go.WG.Dr.el_stack_mount {P : Program} {n : Nat} {fr : Frm} {H G : List Asr} {ops : Array Oper} {Q : Exit → Act → World → Prop} {M : List Nat} {sp : List Nat} {pre : List Pre} {a : Option Addr} {c i : Nat} {x : T_stack_mount} {xs : List T_stack_mount} (hp : Pull (imm k_stack_mount a c xs) H G) (hx : xs[i]? = some x) (k : ∀ b r a1, a = some ⟨b, r, none⟩ → Dr P n ops Q M sp pre fr (ip k_branch_Branch a1 x.Branch :: ro b (r + i * 2) [.int .i64 x.idF, .pointer a1] :: H)) : Dr P n ops Q M sp pre fr H :=
  Dr.exi (Ex.elem op_stack_mount hp hx rfl) fun q e => k q.1 q.2.1 q.2.2 e
theorem _root_.Go.WG.Dr.fo_stack_mount {P : Program} {n : Nat} {fr : Frm} {H G : List Asr} {ops : Array Oper} {Q : Exit → Act → World → Prop} {M : List Nat} {sp : List Nat} {pre : List Pre} {a : Option Addr} {c i : Nat} {x : T_stack_mount} {xs : List T_stack_mount} (hp : Pull (own k_stack_mount a c xs) H G) (hx : xs[i]? = some x) (k : ∀ b r a1, a = some ⟨b, r, none⟩ → Dr P n ops Q M sp pre fr (ip k_branch_Branch a1 x.Branch :: pt b (r + i * 2) [.int .i64 x.idF, .pointer a1] :: hole k_stack_mount a c xs i :: G)) : Dr P n ops Q M sp pre fr H :=
  Dr.exi (Ex.focus op_stack_mount hp hx rfl) fun q e => k q.1 q.2.1 q.2.2 e
theorem mk_stack_mount {H : List Asr} {x : T_stack_mount} {a1 : Option Addr} : Imp (ip k_branch_Branch a1 x.Branch :: H) (rp k_stack_mount [.int .i64 x.idF, .pointer a1] x :: H) := Imp.of_sat fun w I O h => by
  obtain ⟨O0, P0, _, g0, _, h0, hs0⟩ := h
  exact ⟨fun _ _ => False, P0, fun _ _ x => x.elim, fun _ _ x => (g0 _ _ x), fun _ _ x => x.elim, ⟨a1, rfl, h0⟩, hs0⟩
structure T_stack_Stack where
  lF : List T_stack_mount
  nextF : Int
deriving Inhabited
def k_stack_Stack : Kd T_stack_Stack where
  sz := 2
  rep w I cs x := ∃ a1 c1, cs = [.slice a1 x.lF.length c1, .int .i64 x.nextF] ∧ ImmAt k_stack_mount w I a1 c1 x.lF
  len h := by obtain ⟨_, _, rfl, _⟩ := h; rfl
  ones h := by obtain ⟨_, _, rfl, _⟩ := h; rfl
  mono h hI hk := by obtain ⟨a1, c1, e, h0⟩ := h; exact ⟨a1, c1, e, h0.mono hI hk⟩
theorem op_stack_Stack {x : T_stack_Stack} : Opens k_stack_Stack x (fun q : Option Addr × Nat => [.slice q.1 x.lF.length q.2, .int .i64 x.nextF]) (fun q => [imm k_stack_mount q.1 q.2 x.lF]) := by
  intro w I cs h
  obtain ⟨a1, c1, rfl, h0⟩ := h
  exact ⟨⟨a1, c1⟩, rfl, ⟨fun _ _ => False, fun _ _ => False, fun _ _ x => x, fun _ _ x => x, fun _ _ x => x.elim, h0, trivial⟩⟩
theorem _root_.Go.WG.To.el_stack_Stack {n : Nat} {fr : Frm} {H G : List Asr} {K : Act → World → Prop} {a : Option Addr} {c i : Nat} {x : T_stack_Stack} {xs : List T_stack_Stack} (hp : Pull (imm k_stack_Stack a c xs) H G) (hx : xs[i]? = some x) (k : ∀ b r a1 c1, a = some ⟨b, r, none⟩ → To n K fr (imm k_stack_mount a1 c1 x.lF :: ro b (r + i * 2) [.slice a1 x.lF.length c1, .int .i64 x.nextF] :: H)) : To n K fr H :=
  To.ex (Ex.elem op_stack_Stack hp hx rfl) fun q e => k q.1 q.2.1 q.2.2.1 q.2.2.2 e
theorem _root_.Go.WG.To.fo_stack_Stack {n : Nat} {fr : Frm} {H G : List Asr} {K : Act → World → Prop} {a : Option Addr} {c i : Nat} {x : T_stack_Stack} {xs : List T_stack_Stack} (hp : Pull (own k_stack_Stack a c xs) H G) (hx : xs[i]? = some x) (k : ∀ b r a1 c1, a = some ⟨b, r, none⟩ → To n K fr (imm k_stack_mount a1 c1 x.lF :: pt b (r + i * 2) [.slice a1 x.lF.length c1, .int .i64 x.nextF] :: hole k_stack_Stack a c xs i :: G)) : To n K fr H :=
  To.ex (Ex.focus op_stack_Stack hp hx rfl) fun q e => k q.1 q.2.1 q.2.2.1 q.2.2.2 e
theorem _root_.Go.WG.Dr.el_stack_Stack {P : Program} {n : Nat} {fr : Frm} {H G : List Asr} {ops : Array Oper} {Q : Exit → Act → World → Prop} {M : List Nat} {sp : List Nat} {pre : List Pre} {a : Option Addr} {c i : Nat} {x : T_stack_Stack} {xs : List T_stack_Stack} (hp : Pull (imm k_stack_Stack a c xs) H G) (hx : xs[i]? = some x) (k : ∀ b r a1 c1, a = some ⟨b, r, none⟩ → Dr P n ops Q M sp pre fr (imm k_stack_mount a1 c1 x.lF :: ro b (r + i * 2) [.slice a1 x.lF.length c1, .int .i64 x.nextF] :: H)) : Dr P n ops Q M sp pre fr H :=
  Dr.exi (Ex.elem op_stack_Stack hp hx rfl) fun q e => k q.1 q.2.1 q.2.2.1 q.2.2.2 e
theorem _root_.Go.WG.Dr.fo_stack_Stack {P : Program} {n : Nat} {fr : Frm} {H G : List Asr} {ops : Array Oper} {Q : Exit → Act → World → Prop} {M : List Nat} {sp : List Nat} {pre : List Pre} {a : Option Addr} {c i : Nat} {x : T_stack_Stack} {xs : List T_stack_Stack} (hp : Pull (own k_stack_Stack a c xs) H G) (hx : xs[i]? = some x) (k : ∀ b r a1 c1, a = some ⟨b, r, none⟩ → Dr P n ops Q M sp pre fr (imm k_stack_mount a1 c1 x.lF :: pt b (r + i * 2) [.slice a1 x.lF.length c1, .int .i64 x.nextF] :: hole k_stack_Stack a c xs i :: G)) : Dr P n ops Q M sp pre fr H :=
  Dr.exi (Ex.focus op_stack_Stack hp hx rfl) fun q e => k q.1 q.2.1 q.2.2.1 q.2.2.2 e
theorem mk_stack_Stack {H : List Asr} {x : T_stack_Stack} {a1 : Option Addr} {c1 : Nat} : Imp (imm k_stack_mount a1 c1 x.lF :: H) (rp k_stack_Stack [.slice a1 x.lF.length c1, .int .i64 x.nextF] x :: H) := Imp.of_sat fun w I O h => by
  obtain ⟨O0, P0, _, g0, _, h0, hs0⟩ := h
  exact ⟨fun _ _ => False, P0, fun _ _ x => x.elim, fun _ _ x => (g0 _ _ x), fun _ _ x => x.elim, ⟨a1, c1, rfl, h0⟩, hs0⟩
structure T_cursor_Cursor where
  Epoch : Int
  Dir : Str
  At : Int
deriving DecidableEq, Inhabited
def k_cursor_Cursor : Kd T_cursor_Cursor where
  sz := 3
  rep w I cs x := cs = [.int .i64 x.Epoch, .string (S x.Dir), .int .i64 x.At]
  len h := by obtain rfl := h; rfl
  ones h := by obtain rfl := h; rfl
  mono h _ _ := h
theorem op_cursor_Cursor {x : T_cursor_Cursor} : Opens k_cursor_Cursor x (fun _ : Unit => [.int .i64 x.Epoch, .string (S x.Dir), .int .i64 x.At]) (fun _ => []) := fun _ _ _ h => ⟨(), h, trivial⟩
theorem _root_.Go.WG.To.el_cursor_Cursor {n : Nat} {fr : Frm} {H G : List Asr} {K : Act → World → Prop} {a : Option Addr} {c i : Nat} {x : T_cursor_Cursor} {xs : List T_cursor_Cursor} (hp : Pull (imm k_cursor_Cursor a c xs) H G) (hx : xs[i]? = some x) (k : ∀ b r, a = some ⟨b, r, none⟩ → To n K fr (ro b (r + i * 3) [.int .i64 x.Epoch, .string (S x.Dir), .int .i64 x.At] :: H)) : To n K fr H :=
  To.ex (Ex.elem op_cursor_Cursor hp hx rfl) fun q e => k q.1 q.2.1 e
theorem _root_.Go.WG.To.fo_cursor_Cursor {n : Nat} {fr : Frm} {H G : List Asr} {K : Act → World → Prop} {a : Option Addr} {c i : Nat} {x : T_cursor_Cursor} {xs : List T_cursor_Cursor} (hp : Pull (own k_cursor_Cursor a c xs) H G) (hx : xs[i]? = some x) (k : ∀ b r, a = some ⟨b, r, none⟩ → To n K fr (pt b (r + i * 3) [.int .i64 x.Epoch, .string (S x.Dir), .int .i64 x.At] :: hole k_cursor_Cursor a c xs i :: G)) : To n K fr H :=
  To.ex (Ex.focus op_cursor_Cursor hp hx rfl) fun q e => k q.1 q.2.1 e
theorem _root_.Go.WG.Dr.el_cursor_Cursor {P : Program} {n : Nat} {fr : Frm} {H G : List Asr} {ops : Array Oper} {Q : Exit → Act → World → Prop} {M : List Nat} {sp : List Nat} {pre : List Pre} {a : Option Addr} {c i : Nat} {x : T_cursor_Cursor} {xs : List T_cursor_Cursor} (hp : Pull (imm k_cursor_Cursor a c xs) H G) (hx : xs[i]? = some x) (k : ∀ b r, a = some ⟨b, r, none⟩ → Dr P n ops Q M sp pre fr (ro b (r + i * 3) [.int .i64 x.Epoch, .string (S x.Dir), .int .i64 x.At] :: H)) : Dr P n ops Q M sp pre fr H :=
  Dr.exi (Ex.elem op_cursor_Cursor hp hx rfl) fun q e => k q.1 q.2.1 e
theorem _root_.Go.WG.Dr.fo_cursor_Cursor {P : Program} {n : Nat} {fr : Frm} {H G : List Asr} {ops : Array Oper} {Q : Exit → Act → World → Prop} {M : List Nat} {sp : List Nat} {pre : List Pre} {a : Option Addr} {c i : Nat} {x : T_cursor_Cursor} {xs : List T_cursor_Cursor} (hp : Pull (own k_cursor_Cursor a c xs) H G) (hx : xs[i]? = some x) (k : ∀ b r, a = some ⟨b, r, none⟩ → Dr P n ops Q M sp pre fr (pt b (r + i * 3) [.int .i64 x.Epoch, .string (S x.Dir), .int .i64 x.At] :: hole k_cursor_Cursor a c xs i :: G)) : Dr P n ops Q M sp pre fr H :=
  Dr.exi (Ex.focus op_cursor_Cursor hp hx rfl) fun q e => k q.1 q.2.1 e
theorem mk_cursor_Cursor {H : List Asr} {x : T_cursor_Cursor} : Imp H (rp k_cursor_Cursor [.int .i64 x.Epoch, .string (S x.Dir), .int .i64 x.At] x :: H) := Imp.of_sat fun w I O h => ⟨fun _ _ => False, O, fun _ _ x => x.elim, fun _ _ x => x, fun _ _ x => x.elim, rfl, h⟩
structure T_cursor_Table where
  roomF : Int
  nextF : Int
  openF : List (Int × T_cursor_Cursor)
deriving Inhabited
structure T_spec_State where
  Stack : T_stack_Stack
  Epoch : Int
  Table : T_cursor_Table
deriving Inhabited
abbrev mkv3 : Int → Value := fun x => .int .i64 x
abbrev mkv90 : T_cursor_Cursor → Value := fun x => .agg ⟨[.int .i64 x.Epoch, .string (S x.Dir), .int .i64 x.At]⟩
theorem mapt61 : MapT Tryz.prog 61 3 90 := ⟨Tryz.underlying61⟩
theorem key3 : KeyL Tryz.prog 3 mkv3 := KeyL_int Tryz.underlying3
theorem zval90 : ∀ w, (zeroValue 90).run Tryz.prog w = .ok (mkv90 (⟨0, [], 0⟩ : T_cursor_Cursor)) w := fun w => by kernel_rfl
def ob_cursor_Table (b o : Nat) (x : T_cursor_Table) : Asr := sep fun q : Nat => [pt b o [.int .i64 x.roomF, .int .i64 x.nextF, .map (some q)], mp mkv3 mkv90 q x.openF]
theorem _root_.Go.WG.To.uf_cursor_Table {n : Nat} {fr : Frm} {H G : List Asr} {K : Act → World → Prop} {b o : Nat} {x : T_cursor_Table} (hp : Pull (ob_cursor_Table b o x) H G) (k : ∀ (b1 : Nat), To n K fr (pt b o [.int .i64 x.roomF, .int .i64 x.nextF, .map (some b1)] :: mp mkv3 mkv90 b1 x.openF :: G)) : To n K fr H :=
  To.ex (Ex.unsep hp) fun q _ => k q
theorem _root_.Go.WG.Dr.uf_cursor_Table {P : Program} {n : Nat} {fr : Frm} {H G : List Asr} {ops : Array Oper} {Q : Exit → Act → World → Prop} {M : List Nat} {sp : List Nat} {pre : List Pre} {b o : Nat} {x : T_cursor_Table} (hp : Pull (ob_cursor_Table b o x) H G) (k : ∀ (b1 : Nat), Dr P n ops Q M sp pre fr (pt b o [.int .i64 x.roomF, .int .i64 x.nextF, .map (some b1)] :: mp mkv3 mkv90 b1 x.openF :: G)) : Dr P n ops Q M sp pre fr H :=
  Dr.exi (Ex.unsep hp) fun q _ => k q
theorem cl_cursor_Table {H : List Asr} {b o : Nat} (x : T_cursor_Table) {b1 : Nat} : Imp (pt b o [.int .i64 x.roomF, .int .i64 x.nextF, .map (some b1)] :: mp mkv3 mkv90 b1 x.openF :: H) (ob_cursor_Table b o x :: H) := Imp.sep (L := fun q : Nat => [pt b o [.int .i64 x.roomF, .int .i64 x.nextF, .map (some q)], mp mkv3 mkv90 q x.openF]) b1
def ob_spec_State (b o : Nat) (x : T_spec_State) : Asr := sep fun q : (Option Addr) × Nat × Nat => [pt b o [.slice q.1 x.Stack.lF.length q.2.1, .int .i64 x.Stack.nextF, .int .i64 x.Epoch, .pointer (some ⟨q.2.2, 0, none⟩)], imm k_stack_mount q.1 q.2.1 x.Stack.lF, ob_cursor_Table q.2.2 0 x.Table]
theorem _root_.Go.WG.To.uf_spec_State {n : Nat} {fr : Frm} {H G : List Asr} {K : Act → World → Prop} {b o : Nat} {x : T_spec_State} (hp : Pull (ob_spec_State b o x) H G) (k : ∀ (a1 : Option Addr) (c2 : Nat) (b3 : Nat), To n K fr (pt b o [.slice a1 x.Stack.lF.length c2, .int .i64 x.Stack.nextF, .int .i64 x.Epoch, .pointer (some ⟨b3, 0, none⟩)] :: imm k_stack_mount a1 c2 x.Stack.lF :: ob_cursor_Table b3 0 x.Table :: G)) : To n K fr H :=
  To.ex (Ex.unsep hp) fun q _ => k q.1 q.2.1 q.2.2
theorem _root_.Go.WG.Dr.uf_spec_State {P : Program} {n : Nat} {fr : Frm} {H G : List Asr} {ops : Array Oper} {Q : Exit → Act → World → Prop} {M : List Nat} {sp : List Nat} {pre : List Pre} {b o : Nat} {x : T_spec_State} (hp : Pull (ob_spec_State b o x) H G) (k : ∀ (a1 : Option Addr) (c2 : Nat) (b3 : Nat), Dr P n ops Q M sp pre fr (pt b o [.slice a1 x.Stack.lF.length c2, .int .i64 x.Stack.nextF, .int .i64 x.Epoch, .pointer (some ⟨b3, 0, none⟩)] :: imm k_stack_mount a1 c2 x.Stack.lF :: ob_cursor_Table b3 0 x.Table :: G)) : Dr P n ops Q M sp pre fr H :=
  Dr.exi (Ex.unsep hp) fun q _ => k q.1 q.2.1 q.2.2
theorem cl_spec_State {H : List Asr} {b o : Nat} (x : T_spec_State) {a1 : Option Addr} {c2 : Nat} {b3 : Nat} : Imp (pt b o [.slice a1 x.Stack.lF.length c2, .int .i64 x.Stack.nextF, .int .i64 x.Epoch, .pointer (some ⟨b3, 0, none⟩)] :: imm k_stack_mount a1 c2 x.Stack.lF :: ob_cursor_Table b3 0 x.Table :: H) (ob_spec_State b o x :: H) := Imp.sep (L := fun q : (Option Addr) × Nat × Nat => [pt b o [.slice q.1 x.Stack.lF.length q.2.1, .int .i64 x.Stack.nextF, .int .i64 x.Epoch, .pointer (some ⟨q.2.2, 0, none⟩)], imm k_stack_mount q.1 q.2.1 x.Stack.lF, ob_cursor_Table q.2.2 0 x.Table]) ⟨a1, c2, b3⟩

end Go.Proofs.M

set_option linter.unusedVariables false
set_option linter.unusedSimpArgs false
namespace Go.WG
open Go Go.RowKit

/-- all places of a world -/
def old (w : World) : Fp := fun b _ => b < w.heap.size
/-- what there was is as it was -/
def snap (w0 : World) : Asr where
  holds w I O := w.os = w0.os ∧ w.tape = w0.tape ∧ w.output = w0.output ∧ w0.heap.size ≤ w.heap.size ∧ (∀ b y, mt w0 b = some y → mt w b = some y) ∧ ∀ b o, b < w0.heap.size → I b o ∧ at_ w b o = at_ w0 b o
  mono := by
    rintro w w' I I' O O' ⟨h1, h2, h3, h4, h5, h6⟩ hI hO hk
    exact ⟨hk.os.trans h1, hk.tape.trans h2, hk.output.trans h3, Nat.le_trans h4 hk.size, fun b y h => hk.shp b y (h5 b y h), fun b o h => ⟨hI _ _ (h6 b o h).1, (hk.same b o (.inl (h6 b o h).1)).trans (h6 b o h).2⟩⟩
theorem start {w : World} {L : List Asr} (h : Sat w (old w) L (fun _ _ => False)) : Holds w (L ++ [snap w]) := by
  refine ⟨old w, fun _ _ => False, fun _ _ h => h, fun _ _ h => h.elim, fun _ _ _ h => h, ?_⟩
  refine Sat.add h ⟨fun _ _ => False, fun _ _ => False, fun _ _ h => h, fun _ _ h => h, fun _ _ h _ => h, ⟨rfl, rfl, rfl, Nat.le_refl _, fun _ _ h => h, fun b o h => ⟨h, rfl⟩⟩, trivial⟩
theorem Holds.snapped {w0 w : World} {H : List Asr} (h : Holds w (H ++ [snap w0])) : w.os = w0.os ∧ w.tape = w0.tape ∧ w.output = w0.output ∧ w0.heap.size ≤ w.heap.size ∧ (∀ b y, mt w0 b = some y → mt w b = some y) ∧ ∀ b o, b < w0.heap.size → at_ w b o = at_ w0 b o := by
  obtain ⟨I, O, _, _, _, hs⟩ := h
  obtain ⟨O1, O2, _, _, _, _, h2⟩ := Sat.split hs
  obtain ⟨O3, O4, _, _, _, ⟨h1, h2, h3, h4, h5, h6⟩, _⟩ := h2
  exact ⟨h1, h2, h3, h4, h5, fun b o h => (h6 b o h).2⟩
theorem cell_of_at {w w' : World} {b o : Nat} (h : at_ w' b o = at_ w b o) : w'.cell? ⟨b, o, none⟩ = w.cell? ⟨b, o, none⟩ := by
  have key : ∀ v : World, v.cell? ⟨b, o, none⟩ = match at_ v b o with
    | .cell u _ => some u
    | _ => none := by
    intro v
    unfold World.cell? at_ atObj
    cases v.heap[b]? with
    | none => rfl
    | some x => cases x with
      | cells c t f =>
        obtain ⟨lo, hi⟩ := f
        simp only [Option.isSome_none, Bool.false_eq_true, if_false]
        cases c[o]? <;> rfl
      | _ => rfl
  rw [key, key, h]
theorem cell_at_of {w : World} {b o : Nat} {v : Value} (h : w.cell? ⟨b, o, none⟩ = some v) : ∃ fl, at_ w b o = .cell v fl := by
  unfold World.cell? at h
  unfold at_ atObj
  cases hb : w.heap[b]? with
  | none => rw [hb] at h; cases h
  | some x =>
    rw [hb] at h
    cases x with
    | cells c t f =>
      obtain ⟨lo, hi⟩ := f
      simp only [Option.isSome_none, Bool.false_eq_true, if_false] at h
      simp only [h]
      exact ⟨_, rfl⟩
    | _ => cases h
theorem obj_same {w w' : World} {b : Nat} (hs : ∀ o, at_ w' b o = at_ w b o) (hm : ∀ y, mt w b = some y → mt w' b = some y) (hb : b < w.heap.size) (hb' : b < w'.heap.size) : w'.heap[b]? = w.heap[b]? := by
  have h0 : w.heap[b]? = some w.heap[b] := Array.getElem?_eq_getElem hb
  have h0' : w'.heap[b]? = some w'.heap[b] := Array.getElem?_eq_getElem hb'
  have hs' : ∀ o, atObj (some w'.heap[b]) o = atObj (some w.heap[b]) o := fun o => by have := hs o; unfold at_ at this; rwa [h0, h0'] at this
  have hm' := hm
  unfold mt at hm'
  rw [h0, h0'] at hm'
  rw [h0, h0']
  congr 1
  generalize hx : w.heap[b] = x at *
  generalize hy : w'.heap[b] = y at *
  cases x with
  | cells c t f =>
    have h1 := hm' (t, c.size, f) rfl
    cases y with
    | cells c' t' f' =>
      simp only [Option.some.injEq, Prod.mk.injEq] at h1
      obtain ⟨rfl, h2, rfl⟩ := h1
      congr 1
      apply Array.ext h2
      intro i hi hi'
      have := hs' i
      obtain ⟨lo, hi0⟩ := f'
      simp only [atObj, Array.getElem?_eq_getElem hi, Array.getElem?_eq_getElem hi'] at this
      exact (Seen.cell.inj this).1
    | _ => cases h1
  | _ =>
    have := hs' 0
    cases y with
    | cells c' t' f' =>
      obtain ⟨lo, hi0⟩ := f'
      simp only [atObj] at this
      split at this <;> cases this
    | _ => simp only [atObj] at this; exact Seen.obj.inj this
theorem Holds.kept {w0 w : World} {H : List Asr} (h : Holds w (H ++ [snap w0])) : ∀ i, i < w0.heap.size → w.heap[i]? = w0.heap[i]? := by
  obtain ⟨h1, h2, h3, h4, h5, h6⟩ := h.snapped
  exact fun i hi => obj_same (fun o => h6 i o hi) (fun y => h5 i y) hi (by omega)
theorem Holds.below {w0 w : World} {H : List Asr} (h : Holds w (H ++ [snap w0])) : Below w0.heap.size w0 w := by
  obtain ⟨h1, h2, h3, h4, h5, h6⟩ := h.snapped
  exact ⟨h1, h2, h3, h4, fun i hi => h.kept i hi⟩
theorem Tri.calls {P : Program} {f : FuncId} {args : List Value} {H : List Asr} {Φ : Value → List Asr → Prop} (ht : Tri P f args H Φ) {w : World} (h : Sat w (old w) H (fun _ _ => False)) :
    Calls P f ⟨args⟩ w fun e w' => ∃ v H', e = .returned v ∧ Φ v H' ∧ Below w.heap.size w w' :=
  (ht w [snap w] (start h)).mono fun e w' ⟨v, H', h1, h2, h3⟩ => ⟨v, H', h1, h2, h3.below⟩

/-! readings -/
section
variable {α : Type} {P : Program}
/-- what is read at a type, with so much fuel, is of a kind -/
def RdF (P : Program) (t : TypeId) (k : Kd α) (n : Nat) : Prop := ∀ m, m ≤ n → ∀ {H : Type} (enc : TypeId × Value → H) (w : World) (cs : List Value) (y : DataW H × List MemPlace),
  DataW.trod enc P w 0 (fun _ => true) true m t cs = some y → ∃ x, k.rep w (old w) cs x
def Rd (P : Program) (t : TypeId) (k : Kd α) : Prop := ∀ n, RdF P t k n
theorem rd_int {t : TypeId} {k0 : IntKind} (hu : P.underlying t = some (.int k0)) : Rd P t (kInt k0) := by
  intro n m hm H enc w cs y h
  obtain ⟨x, e, _⟩ := DataW.trod_int hu h
  exact ⟨x, e⟩
theorem rd_bool {t : TypeId} (hu : P.underlying t = some .bool) : Rd P t kBool := by
  intro n m hm H enc w cs y h
  obtain ⟨x, e, _⟩ := DataW.trod_bool hu h
  exact ⟨x, e⟩
theorem rd_str {t : TypeId} (hu : P.underlying t = some .string) : Rd P t kStr := by
  intro n m hm H enc w cs y h
  obtain ⟨x, e, _⟩ := DataW.trod_string hu h
  exact ⟨x.data.toList, by rw [e]; rfl⟩
theorem listOf {n : Nat} {Q : Nat → α → Prop} (h : ∀ i, i < n → ∃ x, Q i x) : ∃ xs : List α, xs.length = n ∧ ∀ i (hi : i < xs.length), Q i xs[i] := by
  induction n with
  | zero => exact ⟨[], rfl, fun i hi => by simp at hi⟩
  | succ n ih =>
    obtain ⟨xs, hl, hx⟩ := ih fun i hi => h i (by omega)
    obtain ⟨x, hq⟩ := h n (by omega)
    refine ⟨xs ++ [x], by simp [hl], fun i hi => ?_⟩
    rcases Nat.lt_or_ge i n with h1 | h1
    · rw [List.getElem_append_left (by omega)]; exact hx i (by omega)
    · have : i = xs.length := by simp only [List.length_append, List.length_singleton] at hi; omega
      subst this
      rw [List.getElem_append_right (Nat.le_refl _)]
      simpa [hl] using hq
theorem RdF.slice {k : Kd α} {t e : TypeId} {n : Nat} {g : Bool} (hu : P.underlying t = some (.slice e)) (hk : RdF P e k n) (hs : Ty P e g k.sz) (h0 : 0 < k.sz) : RdF P t (kSl k) (n + 1) := by
  intro m hm H enc w cs y h
  have hz : P.cellsOf e = k.sz := by
    have := hs.size
    unfold Program.cellsOf
    cases hi : P.info? e with
    | none => rw [hi] at this; cases this
    | some i => rw [hi] at this; simpa using this
  rcases DataW.trod_slice hu h with ⟨e1, _⟩ | ⟨a, len, cap, elems, rest, m', rfl, rfl, _, hb, hl, hc, he, hx, _⟩
  · subst e1
    exact ⟨[], none, 0, rfl, Nat.le_refl _, fun i hi => by simp at hi⟩
  · have hq : ∀ i, i < len → ∃ x, ∃ b o cs, a = ⟨b, o, none⟩ ∧ k.rep w (old w) cs x ∧ ∀ j (hj : j < cs.length), old w b (o + i * k.sz + j) ∧ ∃ fl, at_ w b (o + i * k.sz + j) = .cell cs[j] fl := by
      have hat : ∀ i, i < len → ∃ cs y, w.cells? 0 (a.add (i * k.sz)) k.sz = some cs ∧ DataW.trod enc P w 0 (fun _ => true) true m' e cs = some y := by
        intro i hi
        have h1 := hx i hi
        rw [List.getElem?_eq_getElem (by omega), Option.bind_eq_some_iff] at h1
        obtain ⟨cs, h2, h3⟩ := h1
        rw [hz] at h2
        exact ⟨cs, _, h2, h3⟩
      intro i hi
      obtain ⟨cs, y, h2, h3⟩ := hat i hi
      obtain ⟨cs0, y0, h20, _⟩ := hat 0 (by omega)
      obtain ⟨x, hr⟩ := hk m' (by omega) enc w cs y h3
      have hsp : a.spot = none := by
        have h5 := (World.cells?_some h20).2.2 0 h0
        have h51 : 0 < cs0.length := by rw [(World.cells?_some h20).2.1]; exact h0
        rw [List.getElem?_eq_getElem h51, Nat.zero_mul, show ((a.add 0).add 0) = a from rfl] at h5
        unfold World.cell? at h5
        cases hh : w.heap[a.block]? with
        | none => rw [hh] at h5; cases h5
        | some ob =>
          rw [hh] at h5
          cases ob with
          | cells c t f =>
            cases hsp : a.spot with
            | none => rfl
            | some q => simp [hsp] at h5
          | _ => cases h5
      obtain ⟨b, o, sp⟩ := a
      simp only at hsp
      subst hsp
      refine ⟨x, b, o, cs, rfl, hr, fun j hj => ?_⟩
      have h4 := World.cells?_some h2
      have h5 := h4.2.2 j (by omega)
      have h7 : ((⟨b, o, none⟩ : Addr).add (i * k.sz)).add j = ⟨b, o + i * k.sz + j, none⟩ := by
        unfold Addr.add
        split <;> split <;> simp_all
      rw [h7] at h5
      have h8 : w.cell? ⟨b, o + i * k.sz + j, none⟩ = some cs[j] := by rw [h5]; simp [List.getElem?_eq_getElem hj]
      refine ⟨?_, ?_⟩
      · unfold old
        rcases Nat.lt_or_ge b w.heap.size with h9 | h9
        · exact h9
        · unfold World.cell? at h8
          rw [Array.getElem?_eq_none h9] at h8
          cases h8
      · exact cell_at_of h8
    obtain ⟨xs, hlen, hxs⟩ := listOf hq
    refine ⟨xs, some a, cap, by rw [hlen], by omega, fun i hi => ?_⟩
    obtain ⟨b, o, cs, ha, hr, hj⟩ := hxs i hi
    exact ⟨b, o, cs, by rw [ha], hr, hj⟩
theorem Rd.slice {k : Kd α} {t e : TypeId} {g : Bool} (hu : P.underlying t = some (.slice e)) (hk : Rd P e k) (hs : Ty P e g k.sz) (h0 : 0 < k.sz) : Rd P t (kSl k) := fun n m hm => RdF.slice hu (hk n) hs h0 m (by omega)

/-- the fields of what is read -/
def RdFs (P : Program) (t : TypeId) (n : Nat) (w : World) (cs : List Value) : Prop :=
  ∀ {β : Type} (k : Kd β) (f off : Nat) (ft : TypeId) (g : Bool), Fld P t f off ft → Ty P ft g k.sz → RdF P ft k n → ∃ x, k.rep w (old w) ((cs.drop off).take k.sz) x
theorem rd_struct {t : TypeId} {n m : Nat} {sz : Nat} {H : Type} {enc : TypeId × Value → H} {w : World} {cs : List Value} {y : DataW H × List MemPlace} (hm : m ≤ n + 1) (ht : Ty P t true sz) (hst : ∃ fs, P.underlying t = some (.struct fs)) (h : DataW.trod enc P w 0 (fun _ => true) true m t cs = some y) :
    RdFs P t n w cs ∧ cs.drop sz = [] := by
  obtain ⟨fs, hu⟩ := hst
  obtain ⟨xs, m', rfl, _, hl, hx, hf⟩ := DataW.trod_struct hu h
  have hz : ∀ {t : TypeId} {g : Bool} {s : Nat}, Ty P t g s → P.cellsOf t = s := by
    intro t g s hs
    have := hs.size
    unfold Program.cellsOf
    cases hi : P.info? t with
    | none => rw [hi] at this; cases this
    | some i => rw [hi] at this; simpa using this
  refine ⟨?_, ?_⟩
  · intro β k f off ft g hfld hty hk
    obtain ⟨fs', fd, hu', hg, ho, hft⟩ := hfld.get
    rw [hu] at hu'
    cases hu'
    have h1 := hf f fd hg
    have hi : f < xs.length := by rw [hx]; exact (Array.getElem?_eq_some_iff.mp hg).1
    rw [List.getElem?_eq_getElem hi, ho, hft, hz hty] at h1
    exact hk m' (by omega) enc w _ _ h1
  · rw [List.drop_eq_nil_iff, hl, hz ht]; exact Nat.le_refl _
theorem cut {cs p q : List Value} {a n : Nat} (h : (cs.drop a).take n = p) (k : cs.drop (a + n) = q) : cs.drop a = p ++ q := by
  rw [← h, ← k, ← List.drop_drop, List.take_append_drop]

/-! what is handed over -/
section
variable {W : World} {t : TypeId} {base : Nat} {H : Type} {enc : TypeId × Value → H} {v : Value} {d : DataW H} {p : List MemPlace} {k : Kd α}
theorem arg_slice {e : TypeId} (hu : P.underlying t = some (.slice e)) (hr : Rd P t (kSl k)) (hv : Value.okWide P W .any base t v) (h : DataW.Trod enc P W 0 (fun _ => true) true t v d p) :
    ∃ xs a c, v = .slice a xs.length c ∧ ImmAt k W (old W) a c xs := by
  obtain ⟨a, l, c, rfl⟩ := WideShapes.okWide_slice hu hv
  obtain ⟨n, hn⟩ := h
  obtain ⟨xs, a', c', e1, hi⟩ := hr n n (Nat.le_refl _) enc W _ _ hn
  simp only [Value.cells, List.cons.injEq, and_true] at e1
  exact ⟨xs, a', c', e1, hi⟩
theorem arg_struct {fs : Array Field} (hu : P.underlying t = some (.struct fs)) (hr : Rd P t k) (hv : Value.okWide P W .any base t v) (h : DataW.Trod enc P W 0 (fun _ => true) true t v d p) :
    ∃ x cs, v = .agg ⟨cs⟩ ∧ k.rep W (old W) cs x := by
  obtain ⟨cs, rfl, _⟩ := WideShapes.okWide_struct hu hv
  obtain ⟨n, hn⟩ := h
  obtain ⟨x, hx⟩ := hr n n (Nat.le_refl _) enc W _ _ hn
  exact ⟨x, cs.toList, rfl, hx⟩
theorem arg_int {k0 : IntKind} (hu : P.underlying t = some (.int k0)) (hv : Value.okWide P W .any base t v) : ∃ x, v = .int k0 x := WideShapes.okWide_int hu hv
theorem arg_bool (hu : P.underlying t = some .bool) (hv : Value.okWide P W .any base t v) : ∃ x, v = .bool x := WideShapes.okWide_bool hu hv
theorem arg_str (hu : P.underlying t = some .string) (hv : Value.okWide P W .any base t v) : ∃ x, v = .string (S x) := by
  obtain ⟨x, rfl⟩ := WideShapes.okWide_string hu hv
  exact ⟨x.data.toList, rfl⟩
theorem trod_block (h : DataW.Trod enc P W 0 (fun _ => true) true t v d p) : ∀ x ∈ p, x.block < W.heap.size := by
  obtain ⟨n, hn⟩ := h
  exact DataW.trod_lt n _ _ _ hn
theorem Sat.hand {a : Option Addr} {c : Nat} {xs : List α} {I : Fp} {H : List Asr} (h : ImmAt k W I a c xs) (hs : Sat W I H (fun _ _ => False)) : Sat W I (imm k a c xs :: H) (fun _ _ => False) :=
  ⟨fun _ _ => False, fun _ _ => False, fun _ _ h => h, fun _ _ h => h, fun _ _ h _ => h, h, hs⟩
end
end
end Go.WG

set_option linter.unusedVariables false
set_option maxRecDepth 10000
namespace Go.Proofs.M
open Go Go.WG
theorem fld32_0 : Fld Tryz.prog 32 0 0 3 := ⟨by kernel_rfl⟩
theorem fld32_1 : Fld Tryz.prog 32 1 1 3 := ⟨by kernel_rfl⟩
theorem rd_api_Op : Rd Tryz.prog 30 k_api_Op := by
  intro n m hm H enc w cs y h
  obtain ⟨F, hd⟩ := rd_struct (Nat.le_succ_of_le hm) ty30 ⟨_, Tryz.underlying30⟩ h
  obtain ⟨x0, h0⟩ := F (kInt .i64) 0 0 3 _ fld30_0 ty3 ((rd_int Tryz.underlying3) n)
  obtain ⟨x1, h1⟩ := F kStr 1 1 9 _ fld30_1 ty9 ((rd_str Tryz.underlying9) n)
  obtain ⟨x2, h2⟩ := F (kInt .i64) 2 2 3 _ fld30_2 ty3 ((rd_int Tryz.underlying3) n)
  obtain ⟨x3, h3⟩ := F (kInt .i64) 3 3 3 _ fld30_3 ty3 ((rd_int Tryz.underlying3) n)
  obtain ⟨x4, h4⟩ := F (kInt .i64) 4 4 3 _ fld30_4 ty3 ((rd_int Tryz.underlying3) n)
  obtain ⟨x5, h5⟩ := F kStr 5 5 9 _ fld30_5 ty9 ((rd_str Tryz.underlying9) n)
  exact ⟨⟨x0, x1, x2, x3, x4, x5⟩, (cut h0 (cut h1 (cut h2 (cut h3 (cut h4 (cut h5 hd))))))⟩
theorem rd_api_Result : Rd Tryz.prog 26 k_api_Result := by
  intro n m hm H enc w cs y h
  obtain ⟨F, hd⟩ := rd_struct (Nat.le_succ_of_le hm) ty26 ⟨_, Tryz.underlying26⟩ h
  obtain ⟨x0, h0⟩ := F (kInt .i64) 0 0 23 _ fld26_0 ty23 ((rd_int Tryz.underlying23) n)
  obtain ⟨x1, h1⟩ := F (kInt .i64) 1 1 3 _ fld26_1 ty3 ((rd_int Tryz.underlying3) n)
  obtain ⟨x2, h2⟩ := F (kInt .i64) 2 2 3 _ fld26_2 ty3 ((rd_int Tryz.underlying3) n)
  obtain ⟨x3, h3⟩ := F (kInt .i64) 3 3 3 _ fld26_3 ty3 ((rd_int Tryz.underlying3) n)
  obtain ⟨x4, h4⟩ := F (kInt .i64) 4 4 3 _ fld26_4 ty3 ((rd_int Tryz.underlying3) n)
  obtain ⟨x5, h5⟩ := F kStr 5 5 9 _ fld26_5 ty9 ((rd_str Tryz.underlying9) n)
  obtain ⟨x6, a1, c1, h6, i1⟩ := F (kSl kStr) 6 6 24 _ fld26_6 ty24 ((Rd.slice Tryz.underlying24 (rd_str Tryz.underlying9) ty9 (by decide)) n)
  obtain ⟨x7, h7⟩ := F kBool 7 7 4 _ fld26_7 ty4 ((rd_bool Tryz.underlying4) n)
  exact ⟨⟨x0, x1, x2, x3, x4, x5, x6, x7⟩, a1, c1, (cut h0 (cut h1 (cut h2 (cut h3 (cut h4 (cut h5 (cut h6 (cut h7 hd)))))))), i1⟩
theorem rd_sched_Record : Rd Tryz.prog 32 k_sched_Record := by
  intro n m hm H enc w cs y h
  obtain ⟨F, hd⟩ := rd_struct (Nat.le_succ_of_le hm) ty32 ⟨_, Tryz.underlying32⟩ h
  obtain ⟨x0, h0⟩ := F (kInt .i64) 0 0 3 _ fld32_0 ty3 ((rd_int Tryz.underlying3) n)
  obtain ⟨x1, h1⟩ := F (kInt .i64) 1 1 3 _ fld32_1 ty3 ((rd_int Tryz.underlying3) n)
  obtain ⟨x2, h2⟩ := F k_api_Op 2 2 30 _ fld32_2 ty30 (rd_api_Op n)
  obtain ⟨x3, a1, c1, h3, i1⟩ := F k_api_Result 3 8 26 _ fld32_3 ty26 (rd_api_Result n)
  obtain ⟨x4, h4⟩ := F (kInt .i64) 4 16 3 _ fld32_4 ty3 ((rd_int Tryz.underlying3) n)
  obtain ⟨x5, h5⟩ := F (kInt .i64) 5 17 3 _ fld32_5 ty3 ((rd_int Tryz.underlying3) n)
  obtain ⟨x6, h6⟩ := F (kInt .i64) 6 18 3 _ fld32_6 ty3 ((rd_int Tryz.underlying3) n)
  exact ⟨⟨x0, x1, x2, x3, x4, x5, x6⟩, a1, c1, (cut h0 (cut h1 (cut h2 (cut h3 (cut h4 (cut h5 (cut h6 hd))))))), i1⟩
end Go.Proofs.M

set_option linter.unusedVariables false
set_option maxRecDepth 10000
namespace Go.Proofs.M
open Go Go.WG

end Go.Proofs.M

set_option linter.unusedVariables false
set_option maxRecDepth 10000
namespace Go.Proofs.M
open Go Go.WG
/-- socage/socagelaw20.Few -/
def law20_Few.j2 (rec1033 : Int → Option Int) (x1025 : Int) (x1038 : Bool) : Option Int := (if x1038 = true then (some 0) else (rec1033 (IntKind.i64.wrap (x1025 + 1))))
def law20_Few.l1 (p1 : List T_api_Op) : Nat → Int → Option Int
  | 0, _ => none
  | k1032 + 1, x1025 => (if (decide (x1025 < (p1.length : Int))) = true then ((ix p1 x1025).bind fun e1034 => (if (decide ((e1034.Path.length : Int) > 1100)) = true then (law20_Few.j2 (law20_Few.l1 p1 k1032) x1025 true) else (if (decide ((e1034.Image.length : Int) > 2000)) = true then (law20_Few.j2 (law20_Few.l1 p1 k1032) x1025 true) else (law20_Few.j2 (law20_Few.l1 p1 k1032) x1025 (decide (e1034.N > 3000)))))) else (some 1))
def law20_Few.f (k : Nat) (p1 : List T_api_Op) (p4 : Int) : Option Int := (if (decide ((p1.length : Int) > p4)) = true then (some 0) else (law20_Few.l1 p1 k 0))
theorem law20_Few.tri (k : Nat) {r : Int} {p1 : List T_api_Op} {p4 : Int} (hm : law20_Few.f k p1 p4 = some r) (a2 : Option Addr) (c3 : Nat) :
    Tri Tryz.prog 15 [.slice a2 p1.length c3, .int .i64 p4] [imm k_api_Op a2 c3 p1] (fun v H' => v = .int .i64 r ∧ H' = []) := by
  refine Tri.intro1 Tryz.func15 rfl rfl rfl (fun F => ?_)
  unfold law20_Few.f at hm
  refine To.seq ?_
  refine To.region (l := [0]) rfl ?_
  refine To.pure rfl (Want.none rfl) rfl rfl (pe_assign rfl rfl) ?_
  refine To.done ?_
  refine To.keep (Keep.cons 0 rfl (Keep.cons 1 rfl Keep.nil)) ?_
  refine To.nx ?_
  refine To.seq ?_
  refine To.seq ?_
  refine To.region (l := [0, 1, 2, 3]) rfl ?_
  refine To.pure rfl (Want.none rfl) rfl rfl (pe_move rfl rfl) ?_
  refine To.pure rfl (Want.none rfl) rfl rfl (pe_len rfl rfl Tryz.underlying46) ?_
  refine To.pure rfl (Want.none rfl) rfl rfl (pe_move rfl rfl) ?_
  refine To.pure rfl (Want.none rfl) rfl rfl (pe_int rfl rfl rfl bi_gtr) ?_
  refine To.done ?_
  refine To.keep (Keep.cons 10 rfl (Keep.cons 0 rfl Keep.nil)) ?_
  refine To.nx ?_
  refine To.cond rfl (fun hc => ?_) (fun hc => ?_)
  · replace hm := ifT hc hm
    refine To.seq ?_
    refine To.region (l := [0]) rfl ?_
    refine To.pure rfl (Want.none rfl) rfl rfl (pe_assign rfl rfl) ?_
    refine To.done ?_
    refine To.keep (Keep.cons 4 rfl Keep.nil) ?_
    refine To.sel (.drop .all) ?_
    refine To.nx ?_
    refine To.ret ?_
    refine To.tr ?_
    cases hm
    exact To.back rfl (.tmp rfl .nil) rfl ⟨rfl, rfl⟩ .all
  · replace hm := ifF hc hm
    refine To.skip ?_
    refine To.nx ?_
    refine To.seq ?_
    refine To.seq ?_
    refine To.region (l := [0, 1, 2]) rfl ?_
    refine To.pure rfl (Want.none rfl) rfl rfl (pe_move rfl rfl) ?_
    refine To.pure rfl (Want.none rfl) rfl rfl (pe_len rfl rfl Tryz.underlying46) ?_
    refine To.pure rfl (Want.none rfl) rfl rfl (pe_move rfl rfl) ?_
    refine To.done ?_
    refine To.keep (Keep.cons 13 rfl (Keep.cons 12 rfl (Keep.cons 11 rfl Keep.nil))) ?_
    refine To.nx ?_
    refine To.block ?_
    refine To.loop (fun kk a w => ∃ (x1025 : Int), law20_Few.l1 p1 kk x1025 = some r ∧ Knows 33 a [(11, .slice a2 p1.length c3), (12, .int .i64 (p1.length : Int)), (13, .int .i64 x1025)] ∧ Holds w (imm k_api_Op a2 c3 p1 :: F)) ?_ ?_ k ?_
    · rintro a w ⟨_, hm, _, _⟩; rw [law20_Few.l1] at hm; cases hm
    · rintro k1032 a w ⟨x1025, hm, ha, hw⟩
      refine To.at ha hw ?_
      clear ha hw a w
      rw [law20_Few.l1] at hm
      refine To.seq ?_
      refine To.region (l := [0]) rfl ?_
      refine To.pure rfl (Want.none rfl) rfl rfl (pe_int rfl rfl rfl bi_lss) ?_
      refine To.done ?_
      refine To.keep (Keep.cons 14 rfl (Keep.cons 11 rfl (Keep.cons 12 rfl (Keep.cons 13 rfl Keep.nil)))) ?_
      refine To.nx ?_
      refine To.seq ?_
      refine To.cond rfl (fun hc => ?_) (fun hc => ?_)
      · replace hm := ifT hc hm
        refine To.skip ?_
        refine To.nx ?_
        refine To.seq ?_
        refine To.block ?_
        refine To.seq ?_
        refine To.region (l := [0, 1, 2, 3]) rfl ?_
        obtain ⟨e1034, h_e1034, hm⟩ := bindE hm
        obtain ⟨h0_e1034, hl_e1034, hx_e1034⟩ := ixE h_e1034
        refine To.el_api_Op (i := (x1025 : Int).toNat) .z hx_e1034 ?_
        rintro b1035 r1036 e; cases e
        refine To.pure rfl (Want.none rfl) rfl rfl (pe_idx rfl rfl rfl Tryz.underlying46 ty30 h0_e1034 hl_e1034 rfl) ?_
        refine To.pure rfl (Want.none rfl) rfl rfl (pe_load rfl rfl .z .ro rfl (.t (.t (.t (.t (.t (.t .z)))))) ty30 rfl nofun rfl) ?_
        refine To.step rfl (Want.none rfl) rfl rfl (st_alloc rfl zero30) ?_
        rintro _ _ ⟨b1037, rfl, rfl⟩
        refine To.step0 rfl (Want.none rfl) rfl (st_store rfl rfl rfl rfl .z rfl (.t (.t (.t (.t (.t (.t .z)))))) ty30 rfl rfl) ?_
        rintro _ _ rfl
        refine To.done ?_
        refine To.keep (Keep.cons 6 rfl (Keep.cons 11 rfl (Keep.cons 12 rfl (Keep.cons 13 rfl Keep.nil)))) ?_
        refine To.sel (.cons .z (.drop .all)) ?_
        refine To.nx ?_
        refine To.cut (fun a w => ∃ (x1038 : Bool), law20_Few.j2 (law20_Few.l1 p1 k1032) x1025 x1038 = some r ∧ Knows 33 a [(11, .slice (some ⟨b1035, r1036, none⟩) p1.length c3), (12, .int .i64 (p1.length : Int)), (13, .int .i64 x1025), (31, .bool x1038)] ∧ Holds w (imm k_api_Op (some ⟨b1035, r1036, none⟩) c3 p1 :: F)) ?_ ?_
        · rintro a w ⟨x1038, hm, ha, hw⟩
          refine To.at ha hw ?_
          clear ha hw a w
          unfold law20_Few.j2 at hm
          refine To.cond rfl (fun hc => ?_) (fun hc => ?_)
          · replace hm := ifT hc hm
            refine To.seq ?_
            refine To.region (l := [0]) rfl ?_
            refine To.pure rfl (Want.none rfl) rfl rfl (pe_assign rfl rfl) ?_
            refine To.done ?_
            refine To.keep (Keep.cons 4 rfl Keep.nil) ?_
            refine To.sel (.drop .all) ?_
            refine To.nx ?_
            refine To.ret ?_
            refine To.br ?_
            refine To.tr ?_
            refine To.tr ?_
            refine To.br ?_
            refine To.tr ?_
            cases hm
            exact To.back rfl (.tmp rfl .nil) rfl ⟨rfl, rfl⟩ .all
          · replace hm := ifF hc hm
            refine To.skip ?_
            refine To.bn ?_
            refine To.nx ?_
            refine To.region (l := [0, 1]) rfl ?_
            refine To.pure rfl (Want.none rfl) rfl rfl (pe_int rfl rfl rfl bi_add) ?_
            refine To.pure rfl (Want.none rfl) rfl rfl (pe_move rfl rfl) ?_
            refine To.done ?_
            refine To.keep (Keep.cons 13 rfl (Keep.cons 11 rfl (Keep.cons 12 rfl Keep.nil))) ?_
            exact fun a w ha hw => ⟨IntKind.i64.wrap (x1025 + 1), hm, ha.keep (Keep.cons 11 rfl (Keep.cons 12 rfl (Keep.cons 13 rfl Keep.nil))), (Sel.imp (.dup .z inferInstance (.drop .all))) w hw⟩
        · skip
          refine To.region (l := [0, 1, 2, 3, 4, 5, 6, 7, 8, 9, 10, 11, 12, 13, 14]) rfl ?_
          refine To.pure rfl (Want.none rfl) rfl rfl (pe_fld rfl rfl fld30_1 ty9 rfl rfl) ?_
          refine To.pure rfl (Want.none rfl) rfl rfl (pe_load rfl rfl .z .pt rfl (.d (.t .z)) ty9 rfl (fun _ => rfl) rfl) ?_
          refine To.pure rfl (Want.none rfl) rfl rfl (pe_slen (ts := #[]) rfl rfl Tryz.underlying9) ?_
          refine To.pure rfl (Want.none rfl) rfl rfl (pe_int rfl rfl rfl bi_gtr) ?_
          refine To.pure rfl (Want.none rfl) rfl rfl (pe_move rfl rfl) ?_
          refine To.split 21 rfl (fun hc => ?_) (fun hc => ?_)
          · replace hm := ifT hc hm
            refine To.skipped rfl (Want.of rfl rfl rfl rfl rfl rfl) rfl rfl ?_
            refine To.skipped rfl (Want.of rfl rfl rfl rfl rfl rfl) rfl rfl ?_
            refine To.skipped rfl (Want.of rfl rfl rfl rfl rfl rfl) rfl rfl ?_
            refine To.skipped rfl (Want.of rfl rfl rfl rfl rfl rfl) rfl rfl ?_
            refine To.pure rfl (Want.none rfl) rfl rfl (pe_pick rfl rfl rfl) ?_
            refine To.pure rfl (Want.none rfl) rfl rfl (pe_move rfl rfl) ?_
            refine To.skipped rfl (Want.of rfl rfl rfl rfl rfl rfl) rfl rfl ?_
            refine To.skipped rfl (Want.of rfl rfl rfl rfl rfl rfl) rfl rfl ?_
            refine To.skipped rfl (Want.of rfl rfl rfl rfl rfl rfl) rfl rfl ?_
            refine To.pure rfl (Want.none rfl) rfl rfl (pe_pick rfl rfl rfl) ?_
            refine To.done ?_
            refine To.keep (Keep.cons 31 rfl (Keep.cons 11 rfl (Keep.cons 12 rfl (Keep.cons 13 rfl Keep.nil)))) ?_
            refine To.sel (.drop .all) ?_
            exact fun a w ha hw => ⟨true, hm, ha.keep (Keep.cons 11 rfl (Keep.cons 12 rfl (Keep.cons 13 rfl (Keep.cons 31 rfl Keep.nil)))), (Sel.imp (.dup .z inferInstance (.drop .all))) w hw⟩
          · replace hm := ifF hc hm
            refine To.pure rfl (Want.of rfl rfl rfl rfl rfl rfl) rfl rfl (pe_fld rfl rfl fld30_5 ty9 rfl rfl) ?_
            refine To.pure rfl (Want.of rfl rfl rfl rfl rfl rfl) rfl rfl (pe_load rfl rfl .z .pt rfl (.d (.d (.d (.d (.d (.t .z)))))) ty9 rfl (fun _ => rfl) rfl) ?_
            refine To.pure rfl (Want.of rfl rfl rfl rfl rfl rfl) rfl rfl (pe_slen (ts := #[]) rfl rfl Tryz.underlying9) ?_
            refine To.pure rfl (Want.of rfl rfl rfl rfl rfl rfl) rfl rfl (pe_int rfl rfl rfl bi_gtr) ?_
            refine To.pure rfl (Want.none rfl) rfl rfl (pe_pick rfl rfl rfl) ?_
            refine To.pure rfl (Want.none rfl) rfl rfl (pe_move rfl rfl) ?_
            refine To.split 27 rfl (fun hc => ?_) (fun hc => ?_)
            · replace hm := ifT hc hm
              refine To.skipped rfl (Want.of rfl rfl rfl rfl rfl rfl) rfl rfl ?_
              refine To.skipped rfl (Want.of rfl rfl rfl rfl rfl rfl) rfl rfl ?_
              refine To.skipped rfl (Want.of rfl rfl rfl rfl rfl rfl) rfl rfl ?_
              refine To.pure rfl (Want.none rfl) rfl rfl (pe_pick rfl rfl rfl) ?_
              refine To.done ?_
              refine To.keep (Keep.cons 31 rfl (Keep.cons 11 rfl (Keep.cons 12 rfl (Keep.cons 13 rfl Keep.nil)))) ?_
              refine To.sel (.drop .all) ?_
              exact fun a w ha hw => ⟨true, hm, ha.keep (Keep.cons 11 rfl (Keep.cons 12 rfl (Keep.cons 13 rfl (Keep.cons 31 rfl Keep.nil)))), (Sel.imp (.dup .z inferInstance (.drop .all))) w hw⟩
            · replace hm := ifF hc hm
              refine To.pure rfl (Want.of rfl rfl rfl rfl rfl rfl) rfl rfl (pe_fld rfl rfl fld30_3 ty3 rfl rfl) ?_
              refine To.pure rfl (Want.of rfl rfl rfl rfl rfl rfl) rfl rfl (pe_load rfl rfl .z .pt rfl (.d (.d (.d (.t .z)))) ty3 rfl (fun _ => rfl) rfl) ?_
              refine To.pure rfl (Want.of rfl rfl rfl rfl rfl rfl) rfl rfl (pe_int rfl rfl rfl bi_gtr) ?_
              refine To.pure rfl (Want.none rfl) rfl rfl (pe_pick rfl rfl rfl) ?_
              refine To.done ?_
              refine To.keep (Keep.cons 31 rfl (Keep.cons 11 rfl (Keep.cons 12 rfl (Keep.cons 13 rfl Keep.nil)))) ?_
              refine To.sel (.drop .all) ?_
              exact fun a w ha hw => ⟨decide (e1034.N > 3000), hm, ha.keep (Keep.cons 11 rfl (Keep.cons 12 rfl (Keep.cons 13 rfl (Keep.cons 31 rfl Keep.nil)))), (Sel.imp (.dup .z inferInstance (.drop .all))) w hw⟩
      · replace hm := ifF hc hm
        refine To.exit ?_
        refine To.tx ?_
        refine To.tx ?_
        refine To.bx ?_
        refine To.nx ?_
        refine To.seq ?_
        refine To.region (l := [0]) rfl ?_
        refine To.pure rfl (Want.none rfl) rfl rfl (pe_assign rfl rfl) ?_
        refine To.done ?_
        refine To.keep (Keep.cons 4 rfl Keep.nil) ?_
        refine To.sel (.drop .all) ?_
        refine To.nx ?_
        refine To.ret ?_
        cases hm
        exact To.back rfl (.tmp rfl .nil) rfl ⟨rfl, rfl⟩ .all
    · skip
      exact fun a w ha hw => ⟨0, hm, ha.keep (Keep.cons 11 rfl (Keep.cons 12 rfl (Keep.cons 13 rfl Keep.nil))), (Sel.imp (.dup .z inferInstance (.drop .all))) w hw⟩
end Go.Proofs.M

set_option linter.unusedVariables false
set_option maxRecDepth 10000
namespace Go.Proofs.M
open Go Go.WG
/-- socage/socagelaw24.may -/
def law24_may.j2 (rec1073 : Int → Option Bool) (x1057 : Int) (x1084 : Bool) : Option Bool := (if x1084 = true then (some false) else (rec1073 (IntKind.i64.wrap (x1057 + 1))))
def law24_may.l1 (p1 : List T_sched_Record) : Nat → Int → Option Bool
  | 0, _ => none
  | k1072 + 1, x1057 => (if (decide (x1057 < (p1.length : Int))) = true then ((ix p1 x1057).bind fun e1074 => ((law20_Few.f k1072 [e1074.Op] 1).bind fun y1086 => (if (y1086 == 0) = true then (law24_may.j2 (law24_may.l1 p1 k1072) x1057 true) else (if (decide (e1074.Call < 0)) = true then (law24_may.j2 (law24_may.l1 p1 k1072) x1057 true) else (if (decide (e1074.Mark < 0)) = true then (law24_may.j2 (law24_may.l1 p1 k1072) x1057 true) else (if (decide (e1074.Return < 0)) = true then (law24_may.j2 (law24_may.l1 p1 k1072) x1057 true) else (if (decide ((if e1074.Return > (if e1074.Mark > e1074.Call then e1074.Mark else e1074.Call) then e1074.Return else (if e1074.Mark > e1074.Call then e1074.Mark else e1074.Call)) > 2147483647)) = true then (law24_may.j2 (law24_may.l1 p1 k1072) x1057 true) else (law24_may.j2 (law24_may.l1 p1 k1072) x1057 (decide ((e1074.Result.Names.length : Int) > 100)))))))))) else (some true))
def law24_may.f (k : Nat) (p1 : List T_sched_Record) : Option Bool := (if (decide ((p1.length : Int) > 60)) = true then (some false) else (law24_may.l1 p1 k 0))
theorem law24_may.tri (k : Nat) {r : Bool} {p1 : List T_sched_Record} (hm : law24_may.f k p1 = some r) (a2 : Option Addr) (c3 : Nat) :
    Tri Tryz.prog 6 [.slice a2 p1.length c3] [imm k_sched_Record a2 c3 p1] (fun v H' => v = .bool r ∧ H' = []) := by
  refine Tri.intro1 Tryz.func6 rfl rfl rfl (fun F => ?_)
  unfold law24_may.f at hm
  refine To.seq ?_
  refine To.region (l := [0]) rfl ?_
  refine To.pure rfl (Want.none rfl) rfl rfl (pe_assign rfl rfl) ?_
  refine To.done ?_
  refine To.keep (Keep.cons 0 rfl Keep.nil) ?_
  refine To.nx ?_
  refine To.seq ?_
  refine To.seq ?_
  refine To.region (l := [0, 1, 2]) rfl ?_
  refine To.pure rfl (Want.none rfl) rfl rfl (pe_move rfl rfl) ?_
  refine To.pure rfl (Want.none rfl) rfl rfl (pe_len rfl rfl Tryz.underlying22) ?_
  refine To.pure rfl (Want.none rfl) rfl rfl (pe_int rfl rfl rfl bi_gtr) ?_
  refine To.done ?_
  refine To.keep (Keep.cons 7 rfl (Keep.cons 0 rfl Keep.nil)) ?_
  refine To.nx ?_
  refine To.cond rfl (fun hc => ?_) (fun hc => ?_)
  · replace hm := ifT hc hm
    refine To.seq ?_
    refine To.region (l := [0]) rfl ?_
    refine To.pure rfl (Want.none rfl) rfl rfl (pe_assign rfl rfl) ?_
    refine To.done ?_
    refine To.keep (Keep.cons 2 rfl Keep.nil) ?_
    refine To.sel (.drop .all) ?_
    refine To.nx ?_
    refine To.ret ?_
    refine To.tr ?_
    cases hm
    exact To.back rfl (.tmp rfl .nil) rfl ⟨rfl, rfl⟩ .all
  · replace hm := ifF hc hm
    refine To.skip ?_
    refine To.nx ?_
    refine To.seq ?_
    refine To.seq ?_
    refine To.region (l := [0, 1, 2]) rfl ?_
    refine To.pure rfl (Want.none rfl) rfl rfl (pe_move rfl rfl) ?_
    refine To.pure rfl (Want.none rfl) rfl rfl (pe_len rfl rfl Tryz.underlying22) ?_
    refine To.pure rfl (Want.none rfl) rfl rfl (pe_move rfl rfl) ?_
    refine To.done ?_
    refine To.keep (Keep.cons 10 rfl (Keep.cons 9 rfl (Keep.cons 8 rfl Keep.nil))) ?_
    refine To.nx ?_
    refine To.block ?_
    refine To.loop (fun kk a w => ∃ (x1057 : Int), law24_may.l1 p1 kk x1057 = some r ∧ Knows 52 a [(8, .slice a2 p1.length c3), (9, .int .i64 (p1.length : Int)), (10, .int .i64 x1057)] ∧ Holds w (imm k_sched_Record a2 c3 p1 :: F)) ?_ ?_ k ?_
    · rintro a w ⟨_, hm, _, _⟩; rw [law24_may.l1] at hm; cases hm
    · rintro k1072 a w ⟨x1057, hm, ha, hw⟩
      refine To.at ha hw ?_
      clear ha hw a w
      rw [law24_may.l1] at hm
      refine To.seq ?_
      refine To.region (l := [0]) rfl ?_
      refine To.pure rfl (Want.none rfl) rfl rfl (pe_int rfl rfl rfl bi_lss) ?_
      refine To.done ?_
      refine To.keep (Keep.cons 11 rfl (Keep.cons 8 rfl (Keep.cons 9 rfl (Keep.cons 10 rfl Keep.nil)))) ?_
      refine To.nx ?_
      refine To.seq ?_
      refine To.cond rfl (fun hc => ?_) (fun hc => ?_)
      · replace hm := ifT hc hm
        refine To.skip ?_
        refine To.nx ?_
        refine To.seq ?_
        refine To.block ?_
        refine To.seq ?_
        refine To.region (l := [0, 1, 2, 3]) rfl ?_
        obtain ⟨e1074, h_e1074, hm⟩ := bindE hm
        obtain ⟨h0_e1074, hl_e1074, hx_e1074⟩ := ixE h_e1074
        refine To.el_sched_Record (i := (x1057 : Int).toNat) .z hx_e1074 ?_
        rintro b1077 r1078 a1075 c1076 e; cases e
        refine To.pure rfl (Want.none rfl) rfl rfl (pe_idx rfl rfl rfl Tryz.underlying22 ty32 h0_e1074 hl_e1074 rfl) ?_
        refine To.pure rfl (Want.none rfl) rfl rfl (pe_load rfl rfl (.s .z) .ro rfl (.t (.t (.t (.t (.t (.t (.t (.t (.t (.t (.t (.t (.t (.t (.t (.t (.t (.t (.t .z))))))))))))))))))) ty32 rfl nofun rfl) ?_
        refine To.step rfl (Want.none rfl) rfl rfl (st_alloc rfl zero32) ?_
        rintro _ _ ⟨b1079, rfl, rfl⟩
        refine To.step0 rfl (Want.none rfl) rfl (st_store rfl rfl rfl rfl .z rfl (.t (.t (.t (.t (.t (.t (.t (.t (.t (.t (.t (.t (.t (.t (.t (.t (.t (.t (.t .z))))))))))))))))))) ty32 rfl rfl) ?_
        rintro _ _ rfl
        refine To.done ?_
        refine To.keep (Keep.cons 4 rfl (Keep.cons 8 rfl (Keep.cons 9 rfl (Keep.cons 10 rfl Keep.nil)))) ?_
        refine To.sel (.cons .z (.cons .z (.drop .all))) ?_
        refine To.nx ?_
        refine To.cut (fun a w => ∃ (x1084 : Bool), law24_may.j2 (law24_may.l1 p1 k1072) x1057 x1084 = some r ∧ Knows 52 a [(8, .slice (some ⟨b1077, r1078, none⟩) p1.length c3), (9, .int .i64 (p1.length : Int)), (10, .int .i64 x1057), (50, .bool x1084)] ∧ Holds w (imm k_sched_Record (some ⟨b1077, r1078, none⟩) c3 p1 :: F)) ?_ ?_
        · rintro a w ⟨x1084, hm, ha, hw⟩
          refine To.at ha hw ?_
          clear ha hw a w
          unfold law24_may.j2 at hm
          refine To.cond rfl (fun hc => ?_) (fun hc => ?_)
          · replace hm := ifT hc hm
            refine To.seq ?_
            refine To.region (l := [0]) rfl ?_
            refine To.pure rfl (Want.none rfl) rfl rfl (pe_assign rfl rfl) ?_
            refine To.done ?_
            refine To.keep (Keep.cons 2 rfl Keep.nil) ?_
            refine To.sel (.drop .all) ?_
            refine To.nx ?_
            refine To.ret ?_
            refine To.br ?_
            refine To.tr ?_
            refine To.tr ?_
            refine To.br ?_
            refine To.tr ?_
            cases hm
            exact To.back rfl (.tmp rfl .nil) rfl ⟨rfl, rfl⟩ .all
          · replace hm := ifF hc hm
            refine To.skip ?_
            refine To.bn ?_
            refine To.nx ?_
            refine To.region (l := [0, 1]) rfl ?_
            refine To.pure rfl (Want.none rfl) rfl rfl (pe_int rfl rfl rfl bi_add) ?_
            refine To.pure rfl (Want.none rfl) rfl rfl (pe_move rfl rfl) ?_
            refine To.done ?_
            refine To.keep (Keep.cons 10 rfl (Keep.cons 8 rfl (Keep.cons 9 rfl Keep.nil))) ?_
            exact fun a w ha hw => ⟨IntKind.i64.wrap (x1057 + 1), hm, ha.keep (Keep.cons 8 rfl (Keep.cons 9 rfl (Keep.cons 10 rfl Keep.nil))), (Sel.imp (.dup .z inferInstance (.drop .all))) w hw⟩
        · skip
          refine To.region (l := [0, 1, 2, 3, 4, 5, 6, 7, 8, 9, 10, 11, 12, 13, 14, 15, 16, 17, 18, 19, 20, 21, 22, 23, 24, 25, 26, 27, 28, 29, 30, 31, 32, 33, 34, 35, 36]) rfl ?_
          refine To.pure rfl (Want.none rfl) rfl rfl (pe_fld rfl rfl fld32_2 ty30 rfl rfl) ?_
          refine To.pure rfl (Want.none rfl) rfl rfl (pe_load rfl rfl .z .pt rfl (.d (.d (.t (.t (.t (.t (.t (.t .z)))))))) ty30 rfl nofun rfl) ?_
          refine To.step rfl (Want.none rfl) rfl rfl (st_row (vs := [.agg ⟨[.int .i64 e1074.Op.Kind, .string (S e1074.Op.Path), .int .i64 e1074.Op.Off, .int .i64 e1074.Op.N, .int .i64 e1074.Op.ID, .string (S e1074.Op.Image)]⟩]) rfl rfl rfl rfl Tryz.underlying46 ty30 zsz46 rfl rfl) ?_
          rintro _ _ ⟨b1085, rfl, rfl⟩
          refine To.imp (mk_api_Op (x := e1074.Op)) ?_
          refine To.pull (.s .z) (To.imp (Imp.row (k := k_api_Op) (xs := [e1074.Op]) (.cons .z .nil rfl) rfl) ?_)
          refine To.sel (.cons .z (.drop .all)) ?_
          refine To.pull .z (To.imp Imp.freeze ?_)
          obtain ⟨y1086, h_y1086, hm⟩ := bindE hm
          refine To.step rfl (Want.none rfl) rfl rfl (st_call (law20_Few.tri k1072 h_y1086 (some ⟨b1085, 0, none⟩) 1) rfl rfl fun15 (.dup .z inferInstance .all)) ?_
          rintro _ _ ⟨_, ⟨rfl, rfl⟩, rfl⟩
          refine To.app0 ?_
          refine To.pure rfl (Want.none rfl) rfl rfl (pe_int rfl rfl rfl bi_eql) ?_
          refine To.pure rfl (Want.none rfl) rfl rfl (pe_move rfl rfl) ?_
          refine To.split 19 rfl (fun hc => ?_) (fun hc => ?_)
          · replace hm := ifT hc hm
            refine To.skipped rfl (Want.of rfl rfl rfl rfl rfl rfl) rfl rfl ?_
            refine To.skipped rfl (Want.of rfl rfl rfl rfl rfl rfl) rfl rfl ?_
            refine To.skipped rfl (Want.of rfl rfl rfl rfl rfl rfl) rfl rfl ?_
            refine To.pure rfl (Want.none rfl) rfl rfl (pe_pick rfl rfl rfl) ?_
            refine To.pure rfl (Want.none rfl) rfl rfl (pe_move rfl rfl) ?_
            refine To.skipped rfl (Want.of rfl rfl rfl rfl rfl rfl) rfl rfl ?_
            refine To.skipped rfl (Want.of rfl rfl rfl rfl rfl rfl) rfl rfl ?_
            refine To.skipped rfl (Want.of rfl rfl rfl rfl rfl rfl) rfl rfl ?_
            refine To.pure rfl (Want.none rfl) rfl rfl (pe_pick rfl rfl rfl) ?_
            refine To.pure rfl (Want.none rfl) rfl rfl (pe_move rfl rfl) ?_
            refine To.skipped rfl (Want.of rfl rfl rfl rfl rfl rfl) rfl rfl ?_
            refine To.skipped rfl (Want.of rfl rfl rfl rfl rfl rfl) rfl rfl ?_
            refine To.skipped rfl (Want.of rfl rfl rfl rfl rfl rfl) rfl rfl ?_
            refine To.pure rfl (Want.none rfl) rfl rfl (pe_pick rfl rfl rfl) ?_
            refine To.pure rfl (Want.none rfl) rfl rfl (pe_move rfl rfl) ?_
            refine To.skipped rfl (Want.of rfl rfl rfl rfl rfl rfl) rfl rfl ?_
            refine To.skipped rfl (Want.of rfl rfl rfl rfl rfl rfl) rfl rfl ?_
            refine To.skipped rfl (Want.of rfl rfl rfl rfl rfl rfl) rfl rfl ?_
            refine To.skipped rfl (Want.of rfl rfl rfl rfl rfl rfl) rfl rfl ?_
            refine To.skipped rfl (Want.of rfl rfl rfl rfl rfl rfl) rfl rfl ?_
            refine To.skipped rfl (Want.of rfl rfl rfl rfl rfl rfl) rfl rfl ?_
            refine To.skipped rfl (Want.of rfl rfl rfl rfl rfl rfl) rfl rfl ?_
            refine To.skipped rfl (Want.of rfl rfl rfl rfl rfl rfl) rfl rfl ?_
            refine To.pure rfl (Want.none rfl) rfl rfl (pe_pick rfl rfl rfl) ?_
            refine To.pure rfl (Want.none rfl) rfl rfl (pe_move rfl rfl) ?_
            refine To.skipped rfl (Want.of rfl rfl rfl rfl rfl rfl) rfl rfl ?_
            refine To.skipped rfl (Want.of rfl rfl rfl rfl rfl rfl) rfl rfl ?_
            refine To.skipped rfl (Want.of rfl rfl rfl rfl rfl rfl) rfl rfl ?_
            refine To.skipped rfl (Want.of rfl rfl rfl rfl rfl rfl) rfl rfl ?_
            refine To.skipped rfl (Want.of rfl rfl rfl rfl rfl rfl) rfl rfl ?_
            refine To.pure rfl (Want.none rfl) rfl rfl (pe_pick rfl rfl rfl) ?_
            refine To.done ?_
            refine To.keep (Keep.cons 50 rfl (Keep.cons 8 rfl (Keep.cons 9 rfl (Keep.cons 10 rfl Keep.nil)))) ?_
            refine To.sel (.drop (.drop (.drop .all))) ?_
            exact fun a w ha hw => ⟨true, hm, ha.keep (Keep.cons 8 rfl (Keep.cons 9 rfl (Keep.cons 10 rfl (Keep.cons 50 rfl Keep.nil)))), (Sel.imp (.dup .z inferInstance (.drop .all))) w hw⟩
          · replace hm := ifF hc hm
            refine To.pure rfl (Want.of rfl rfl rfl rfl rfl rfl) rfl rfl (pe_fld rfl rfl fld32_4 ty3 rfl rfl) ?_
            refine To.pure rfl (Want.of rfl rfl rfl rfl rfl rfl) rfl rfl (pe_load rfl rfl (.s .z) .pt rfl (.d (.d (.d (.d (.d (.d (.d (.d (.d (.d (.d (.d (.d (.d (.d (.d (.t .z))))))))))))))))) ty3 rfl (fun _ => rfl) rfl) ?_
            refine To.pure rfl (Want.of rfl rfl rfl rfl rfl rfl) rfl rfl (pe_int rfl rfl rfl bi_lss) ?_
            refine To.pure rfl (Want.none rfl) rfl rfl (pe_pick rfl rfl rfl) ?_
            refine To.pure rfl (Want.none rfl) rfl rfl (pe_move rfl rfl) ?_
            refine To.split 24 rfl (fun hc => ?_) (fun hc => ?_)
            · replace hm := ifT hc hm
              refine To.skipped rfl (Want.of rfl rfl rfl rfl rfl rfl) rfl rfl ?_
              refine To.skipped rfl (Want.of rfl rfl rfl rfl rfl rfl) rfl rfl ?_
              refine To.skipped rfl (Want.of rfl rfl rfl rfl rfl rfl) rfl rfl ?_
              refine To.pure rfl (Want.none rfl) rfl rfl (pe_pick rfl rfl rfl) ?_
              refine To.pure rfl (Want.none rfl) rfl rfl (pe_move rfl rfl) ?_
              refine To.skipped rfl (Want.of rfl rfl rfl rfl rfl rfl) rfl rfl ?_
              refine To.skipped rfl (Want.of rfl rfl rfl rfl rfl rfl) rfl rfl ?_
              refine To.skipped rfl (Want.of rfl rfl rfl rfl rfl rfl) rfl rfl ?_
              refine To.pure rfl (Want.none rfl) rfl rfl (pe_pick rfl rfl rfl) ?_
              refine To.pure rfl (Want.none rfl) rfl rfl (pe_move rfl rfl) ?_
              refine To.skipped rfl (Want.of rfl rfl rfl rfl rfl rfl) rfl rfl ?_
              refine To.skipped rfl (Want.of rfl rfl rfl rfl rfl rfl) rfl rfl ?_
              refine To.skipped rfl (Want.of rfl rfl rfl rfl rfl rfl) rfl rfl ?_
              refine To.skipped rfl (Want.of rfl rfl rfl rfl rfl rfl) rfl rfl ?_
              refine To.skipped rfl (Want.of rfl rfl rfl rfl rfl rfl) rfl rfl ?_
              refine To.skipped rfl (Want.of rfl rfl rfl rfl rfl rfl) rfl rfl ?_
              refine To.skipped rfl (Want.of rfl rfl rfl rfl rfl rfl) rfl rfl ?_
              refine To.skipped rfl (Want.of rfl rfl rfl rfl rfl rfl) rfl rfl ?_
              refine To.pure rfl (Want.none rfl) rfl rfl (pe_pick rfl rfl rfl) ?_
              refine To.pure rfl (Want.none rfl) rfl rfl (pe_move rfl rfl) ?_
              refine To.skipped rfl (Want.of rfl rfl rfl rfl rfl rfl) rfl rfl ?_
              refine To.skipped rfl (Want.of rfl rfl rfl rfl rfl rfl) rfl rfl ?_
              refine To.skipped rfl (Want.of rfl rfl rfl rfl rfl rfl) rfl rfl ?_
              refine To.skipped rfl (Want.of rfl rfl rfl rfl rfl rfl) rfl rfl ?_
              refine To.skipped rfl (Want.of rfl rfl rfl rfl rfl rfl) rfl rfl ?_
              refine To.pure rfl (Want.none rfl) rfl rfl (pe_pick rfl rfl rfl) ?_
              refine To.done ?_
              refine To.keep (Keep.cons 50 rfl (Keep.cons 8 rfl (Keep.cons 9 rfl (Keep.cons 10 rfl Keep.nil)))) ?_
              refine To.sel (.drop (.drop (.drop .all))) ?_
              exact fun a w ha hw => ⟨true, hm, ha.keep (Keep.cons 8 rfl (Keep.cons 9 rfl (Keep.cons 10 rfl (Keep.cons 50 rfl Keep.nil)))), (Sel.imp (.dup .z inferInstance (.drop .all))) w hw⟩
            · replace hm := ifF hc hm
              refine To.pure rfl (Want.of rfl rfl rfl rfl rfl rfl) rfl rfl (pe_fld rfl rfl fld32_5 ty3 rfl rfl) ?_
              refine To.pure rfl (Want.of rfl rfl rfl rfl rfl rfl) rfl rfl (pe_load rfl rfl (.s .z) .pt rfl (.d (.d (.d (.d (.d (.d (.d (.d (.d (.d (.d (.d (.d (.d (.d (.d (.d (.t .z)))))))))))))))))) ty3 rfl (fun _ => rfl) rfl) ?_
              refine To.pure rfl (Want.of rfl rfl rfl rfl rfl rfl) rfl rfl (pe_int rfl rfl rfl bi_lss) ?_
              refine To.pure rfl (Want.none rfl) rfl rfl (pe_pick rfl rfl rfl) ?_
              refine To.pure rfl (Want.none rfl) rfl rfl (pe_move rfl rfl) ?_
              refine To.split 29 rfl (fun hc => ?_) (fun hc => ?_)
              · replace hm := ifT hc hm
                refine To.skipped rfl (Want.of rfl rfl rfl rfl rfl rfl) rfl rfl ?_
                refine To.skipped rfl (Want.of rfl rfl rfl rfl rfl rfl) rfl rfl ?_
                refine To.skipped rfl (Want.of rfl rfl rfl rfl rfl rfl) rfl rfl ?_
                refine To.pure rfl (Want.none rfl) rfl rfl (pe_pick rfl rfl rfl) ?_
                refine To.pure rfl (Want.none rfl) rfl rfl (pe_move rfl rfl) ?_
                refine To.skipped rfl (Want.of rfl rfl rfl rfl rfl rfl) rfl rfl ?_
                refine To.skipped rfl (Want.of rfl rfl rfl rfl rfl rfl) rfl rfl ?_
                refine To.skipped rfl (Want.of rfl rfl rfl rfl rfl rfl) rfl rfl ?_
                refine To.skipped rfl (Want.of rfl rfl rfl rfl rfl rfl) rfl rfl ?_
                refine To.skipped rfl (Want.of rfl rfl rfl rfl rfl rfl) rfl rfl ?_
                refine To.skipped rfl (Want.of rfl rfl rfl rfl rfl rfl) rfl rfl ?_
                refine To.skipped rfl (Want.of rfl rfl rfl rfl rfl rfl) rfl rfl ?_
                refine To.skipped rfl (Want.of rfl rfl rfl rfl rfl rfl) rfl rfl ?_
                refine To.pure rfl (Want.none rfl) rfl rfl (pe_pick rfl rfl rfl) ?_
                refine To.pure rfl (Want.none rfl) rfl rfl (pe_move rfl rfl) ?_
                refine To.skipped rfl (Want.of rfl rfl rfl rfl rfl rfl) rfl rfl ?_
                refine To.skipped rfl (Want.of rfl rfl rfl rfl rfl rfl) rfl rfl ?_
                refine To.skipped rfl (Want.of rfl rfl rfl rfl rfl rfl) rfl rfl ?_
                refine To.skipped rfl (Want.of rfl rfl rfl rfl rfl rfl) rfl rfl ?_
                refine To.skipped rfl (Want.of rfl rfl rfl rfl rfl rfl) rfl rfl ?_
                refine To.pure rfl (Want.none rfl) rfl rfl (pe_pick rfl rfl rfl) ?_
                refine To.done ?_
                refine To.keep (Keep.cons 50 rfl (Keep.cons 8 rfl (Keep.cons 9 rfl (Keep.cons 10 rfl Keep.nil)))) ?_
                refine To.sel (.drop (.drop (.drop .all))) ?_
                exact fun a w ha hw => ⟨true, hm, ha.keep (Keep.cons 8 rfl (Keep.cons 9 rfl (Keep.cons 10 rfl (Keep.cons 50 rfl Keep.nil)))), (Sel.imp (.dup .z inferInstance (.drop .all))) w hw⟩
              · replace hm := ifF hc hm
                refine To.pure rfl (Want.of rfl rfl rfl rfl rfl rfl) rfl rfl (pe_fld rfl rfl fld32_6 ty3 rfl rfl) ?_
                refine To.pure rfl (Want.of rfl rfl rfl rfl rfl rfl) rfl rfl (pe_load rfl rfl (.s .z) .pt rfl (.d (.d (.d (.d (.d (.d (.d (.d (.d (.d (.d (.d (.d (.d (.d (.d (.d (.d (.t .z))))))))))))))))))) ty3 rfl (fun _ => rfl) rfl) ?_
                refine To.pure rfl (Want.of rfl rfl rfl rfl rfl rfl) rfl rfl (pe_int rfl rfl rfl bi_lss) ?_
                refine To.pure rfl (Want.none rfl) rfl rfl (pe_pick rfl rfl rfl) ?_
                refine To.pure rfl (Want.none rfl) rfl rfl (pe_move rfl rfl) ?_
                refine To.split 34 rfl (fun hc => ?_) (fun hc => ?_)
                · replace hm := ifT hc hm
                  refine To.skipped rfl (Want.of rfl rfl rfl rfl rfl rfl) rfl rfl ?_
                  refine To.skipped rfl (Want.of rfl rfl rfl rfl rfl rfl) rfl rfl ?_
                  refine To.skipped rfl (Want.of rfl rfl rfl rfl rfl rfl) rfl rfl ?_
                  refine To.skipped rfl (Want.of rfl rfl rfl rfl rfl rfl) rfl rfl ?_
                  refine To.skipped rfl (Want.of rfl rfl rfl rfl rfl rfl) rfl rfl ?_
                  refine To.skipped rfl (Want.of rfl rfl rfl rfl rfl rfl) rfl rfl ?_
                  refine To.skipped rfl (Want.of rfl rfl rfl rfl rfl rfl) rfl rfl ?_
                  refine To.skipped rfl (Want.of rfl rfl rfl rfl rfl rfl) rfl rfl ?_
                  refine To.pure rfl (Want.none rfl) rfl rfl (pe_pick rfl rfl rfl) ?_
                  refine To.pure rfl (Want.none rfl) rfl rfl (pe_move rfl rfl) ?_
                  refine To.skipped rfl (Want.of rfl rfl rfl rfl rfl rfl) rfl rfl ?_
                  refine To.skipped rfl (Want.of rfl rfl rfl rfl rfl rfl) rfl rfl ?_
                  refine To.skipped rfl (Want.of rfl rfl rfl rfl rfl rfl) rfl rfl ?_
                  refine To.skipped rfl (Want.of rfl rfl rfl rfl rfl rfl) rfl rfl ?_
                  refine To.skipped rfl (Want.of rfl rfl rfl rfl rfl rfl) rfl rfl ?_
                  refine To.pure rfl (Want.none rfl) rfl rfl (pe_pick rfl rfl rfl) ?_
                  refine To.done ?_
                  refine To.keep (Keep.cons 50 rfl (Keep.cons 8 rfl (Keep.cons 9 rfl (Keep.cons 10 rfl Keep.nil)))) ?_
                  refine To.sel (.drop (.drop (.drop .all))) ?_
                  exact fun a w ha hw => ⟨true, hm, ha.keep (Keep.cons 8 rfl (Keep.cons 9 rfl (Keep.cons 10 rfl (Keep.cons 50 rfl Keep.nil)))), (Sel.imp (.dup .z inferInstance (.drop .all))) w hw⟩
                · replace hm := ifF hc hm
                  refine To.pure rfl (Want.of rfl rfl rfl rfl rfl rfl) rfl rfl (pe_fld rfl rfl fld32_4 ty3 rfl rfl) ?_
                  refine To.pure rfl (Want.of rfl rfl rfl rfl rfl rfl) rfl rfl (pe_load rfl rfl (.s .z) .pt rfl (.d (.d (.d (.d (.d (.d (.d (.d (.d (.d (.d (.d (.d (.d (.d (.d (.t .z))))))))))))))))) ty3 rfl (fun _ => rfl) rfl) ?_
                  refine To.pure rfl (Want.of rfl rfl rfl rfl rfl rfl) rfl rfl (pe_fld rfl rfl fld32_5 ty3 rfl rfl) ?_
                  refine To.pure rfl (Want.of rfl rfl rfl rfl rfl rfl) rfl rfl (pe_load rfl rfl (.s .z) .pt rfl (.d (.d (.d (.d (.d (.d (.d (.d (.d (.d (.d (.d (.d (.d (.d (.d (.d (.t .z)))))))))))))))))) ty3 rfl (fun _ => rfl) rfl) ?_
                  refine To.pure rfl (Want.of rfl rfl rfl rfl rfl rfl) rfl rfl (pe_fld rfl rfl fld32_6 ty3 rfl rfl) ?_
                  refine To.pure rfl (Want.of rfl rfl rfl rfl rfl rfl) rfl rfl (pe_load rfl rfl (.s .z) .pt rfl (.d (.d (.d (.d (.d (.d (.d (.d (.d (.d (.d (.d (.d (.d (.d (.d (.d (.d (.t .z))))))))))))))))))) ty3 rfl (fun _ => rfl) rfl) ?_
                  refine To.pure rfl (Want.of rfl rfl rfl rfl rfl rfl) rfl rfl (pe_max3 rfl rfl rfl rfl) ?_
                  refine To.pure rfl (Want.of rfl rfl rfl rfl rfl rfl) rfl rfl (pe_int rfl rfl rfl bi_gtr) ?_
                  refine To.pure rfl (Want.none rfl) rfl rfl (pe_pick rfl rfl rfl) ?_
                  refine To.pure rfl (Want.none rfl) rfl rfl (pe_move rfl rfl) ?_
                  refine To.split 44 rfl (fun hc => ?_) (fun hc => ?_)
                  · replace hm := ifT hc hm
                    refine To.skipped rfl (Want.of rfl rfl rfl rfl rfl rfl) rfl rfl ?_
                    refine To.skipped rfl (Want.of rfl rfl rfl rfl rfl rfl) rfl rfl ?_
                    refine To.skipped rfl (Want.of rfl rfl rfl rfl rfl rfl) rfl rfl ?_
                    refine To.skipped rfl (Want.of rfl rfl rfl rfl rfl rfl) rfl rfl ?_
                    refine To.skipped rfl (Want.of rfl rfl rfl rfl rfl rfl) rfl rfl ?_
                    refine To.pure rfl (Want.none rfl) rfl rfl (pe_pick rfl rfl rfl) ?_
                    refine To.done ?_
                    refine To.keep (Keep.cons 50 rfl (Keep.cons 8 rfl (Keep.cons 9 rfl (Keep.cons 10 rfl Keep.nil)))) ?_
                    refine To.sel (.drop (.drop (.drop .all))) ?_
                    exact fun a w ha hw => ⟨true, hm, ha.keep (Keep.cons 8 rfl (Keep.cons 9 rfl (Keep.cons 10 rfl (Keep.cons 50 rfl Keep.nil)))), (Sel.imp (.dup .z inferInstance (.drop .all))) w hw⟩
                  · replace hm := ifF hc hm
                    refine To.pure rfl (Want.of rfl rfl rfl rfl rfl rfl) rfl rfl (pe_fld rfl rfl fld32_3 ty26 rfl rfl) ?_
                    refine To.pure rfl (Want.of rfl rfl rfl rfl rfl rfl) rfl rfl (pe_fld rfl rfl fld26_6 ty24 rfl rfl) ?_
                    refine To.pure rfl (Want.of rfl rfl rfl rfl rfl rfl) rfl rfl (pe_load rfl rfl (.s .z) .pt rfl (.d (.d (.d (.d (.d (.d (.d (.d (.d (.d (.d (.d (.d (.d (.t .z))))))))))))))) ty24 rfl (fun _ => rfl) rfl) ?_
                    refine To.pure rfl (Want.of rfl rfl rfl rfl rfl rfl) rfl rfl (pe_len rfl rfl Tryz.underlying24) ?_
                    refine To.pure rfl (Want.of rfl rfl rfl rfl rfl rfl) rfl rfl (pe_int rfl rfl rfl bi_gtr) ?_
                    refine To.pure rfl (Want.none rfl) rfl rfl (pe_pick rfl rfl rfl) ?_
                    refine To.done ?_
                    refine To.keep (Keep.cons 50 rfl (Keep.cons 8 rfl (Keep.cons 9 rfl (Keep.cons 10 rfl Keep.nil)))) ?_
                    refine To.sel (.drop (.drop (.drop .all))) ?_
                    exact fun a w ha hw => ⟨decide ((e1074.Result.Names.length : Int) > 100), hm, ha.keep (Keep.cons 8 rfl (Keep.cons 9 rfl (Keep.cons 10 rfl (Keep.cons 50 rfl Keep.nil)))), (Sel.imp (.dup .z inferInstance (.drop .all))) w hw⟩
      · replace hm := ifF hc hm
        refine To.exit ?_
        refine To.tx ?_
        refine To.tx ?_
        refine To.bx ?_
        refine To.nx ?_
        refine To.seq ?_
        refine To.region (l := [0]) rfl ?_
        refine To.pure rfl (Want.none rfl) rfl rfl (pe_assign rfl rfl) ?_
        refine To.done ?_
        refine To.keep (Keep.cons 2 rfl Keep.nil) ?_
        refine To.sel (.drop .all) ?_
        refine To.nx ?_
        refine To.ret ?_
        cases hm
        exact To.back rfl (.tmp rfl .nil) rfl ⟨rfl, rfl⟩ .all
    · skip
      exact fun a w ha hw => ⟨0, hm, ha.keep (Keep.cons 8 rfl (Keep.cons 9 rfl (Keep.cons 10 rfl Keep.nil))), (Sel.imp (.dup .z inferInstance (.drop .all))) w hw⟩
end Go.Proofs.M

set_option linter.unusedVariables false
set_option maxRecDepth 10000
namespace Go.Proofs.M
open Go Go.WG
/-- socage/tale.Before -/
def tale_Before.f (k : Nat) (p1 : T_sched_Record) (p4 : T_sched_Record) : Option Bool := (some (decide (p1.Return < p4.Call)))
theorem tale_Before.tri (k : Nat) {r : Bool} {p1 : T_sched_Record} {p4 : T_sched_Record} (hm : tale_Before.f k p1 p4 = some r) (a2 : Option Addr) (c3 : Nat) (a5 : Option Addr) (c6 : Nat) :
    Tri Tryz.prog 7 [.agg ⟨[.int .i64 p1.Client, .int .i64 p1.Index, .int .i64 p1.Op.Kind, .string (S p1.Op.Path), .int .i64 p1.Op.Off, .int .i64 p1.Op.N, .int .i64 p1.Op.ID, .string (S p1.Op.Image), .int .i64 p1.Result.Err, .int .i64 p1.Result.Kind, .int .i64 p1.Result.Size, .int .i64 p1.Result.Where, .int .i64 p1.Result.ID, .string (S p1.Result.Text), .slice a2 p1.Result.Names.length c3, .bool p1.Result.End, .int .i64 p1.Call, .int .i64 p1.Mark, .int .i64 p1.Return]⟩, .agg ⟨[.int .i64 p4.Client, .int .i64 p4.Index, .int .i64 p4.Op.Kind, .string (S p4.Op.Path), .int .i64 p4.Op.Off, .int .i64 p4.Op.N, .int .i64 p4.Op.ID, .string (S p4.Op.Image), .int .i64 p4.Result.Err, .int .i64 p4.Result.Kind, .int .i64 p4.Result.Size, .int .i64 p4.Result.Where, .int .i64 p4.Result.ID, .string (S p4.Result.Text), .slice a5 p4.Result.Names.length c6, .bool p4.Result.End, .int .i64 p4.Call, .int .i64 p4.Mark, .int .i64 p4.Return]⟩] [imm kStr a2 c3 p1.Result.Names, imm kStr a5 c6 p4.Result.Names] (fun v H' => v = .bool r ∧ H' = []) := by
  refine Tri.intro2 Tryz.func7 rfl rfl rfl (fun F => ?_)
  unfold tale_Before.f at hm
  refine To.seq ?_
  refine To.region (l := [0, 1, 2]) rfl ?_
  refine To.step rfl (Want.none rfl) rfl rfl (st_box rfl rfl rfl) ?_
  rintro _ _ ⟨b1003, rfl, rfl⟩
  refine To.step rfl (Want.none rfl) rfl rfl (st_box rfl rfl rfl) ?_
  rintro _ _ ⟨b1004, rfl, rfl⟩
  refine To.pure rfl (Want.none rfl) rfl rfl (pe_assign rfl rfl) ?_
  refine To.done ?_
  refine To.keep (Keep.cons 3 rfl (Keep.cons 2 rfl Keep.nil)) ?_
  refine To.nx ?_
  refine To.seq ?_
  refine To.region (l := [0, 1, 2, 3, 4, 5]) rfl ?_
  refine To.pure rfl (Want.none rfl) rfl rfl (pe_fld rfl rfl fld32_6 ty3 rfl rfl) ?_
  refine To.pure rfl (Want.none rfl) rfl rfl (pe_load rfl rfl (.s .z) .pt rfl (.d (.d (.d (.d (.d (.d (.d (.d (.d (.d (.d (.d (.d (.d (.d (.d (.d (.d (.t .z))))))))))))))))))) ty3 rfl (fun _ => rfl) rfl) ?_
  refine To.pure rfl (Want.none rfl) rfl rfl (pe_fld rfl rfl fld32_4 ty3 rfl rfl) ?_
  refine To.pure rfl (Want.none rfl) rfl rfl (pe_load rfl rfl .z .pt rfl (.d (.d (.d (.d (.d (.d (.d (.d (.d (.d (.d (.d (.d (.d (.d (.d (.t .z))))))))))))))))) ty3 rfl (fun _ => rfl) rfl) ?_
  refine To.pure rfl (Want.none rfl) rfl rfl (pe_int rfl rfl rfl bi_lss) ?_
  refine To.pure rfl (Want.none rfl) rfl rfl (pe_assign rfl rfl) ?_
  refine To.done ?_
  refine To.keep (Keep.cons 4 rfl Keep.nil) ?_
  refine To.sel (.drop (.drop (.drop (.drop .all)))) ?_
  refine To.nx ?_
  refine To.ret ?_
  cases hm
  exact To.back rfl (.tmp rfl .nil) rfl ⟨rfl, rfl⟩ .all
end Go.Proofs.M

set_option linter.unusedVariables false
set_option maxRecDepth 10000
namespace Go.Proofs.M
open Go Go.WG
/-- socage/tale.Kept -/
def tale_Kept.l2 (z1180 : List T_sched_Record) (e1174 : T_sched_Record) (rec1173 : Int → Option Bool) (x1137 : Int) : Nat → Int → Option Bool
  | 0, _ => none
  | k1198 + 1, x1189 => (if (decide (x1189 < (z1180.length : Int))) = true then ((ix z1180 x1189).bind fun e1200 => ((tale_Before.f k1198 e1200 e1174).bind fun y1206 => (if y1206 = true then (some false) else ((tale_Kept.l2 z1180 e1174 rec1173 x1137 k1198) (IntKind.i64.wrap (x1189 + 1)))))) else (rec1173 (IntKind.i64.wrap (x1137 + 1))))
def tale_Kept.l1 (p1 : List T_sched_Record) : Nat → Int → Option Bool
  | 0, _ => none
  | k1172 + 1, x1137 => (if (decide (x1137 < (p1.length : Int))) = true then ((ix p1 x1137).bind fun e1174 => ((lslice p1 (IntKind.i64.wrap (x1137 + 1)) (p1.length : Int)).bind fun z1180 => (tale_Kept.l2 z1180 e1174 (tale_Kept.l1 p1 k1172) x1137 k1172 0))) else (some true))
def tale_Kept.f (k : Nat) (p1 : List T_sched_Record) : Option Bool := (tale_Kept.l1 p1 k 0)
theorem tale_Kept.tri (k : Nat) {r : Bool} {p1 : List T_sched_Record} (hm : tale_Kept.f k p1 = some r) (a2 : Option Addr) (c3 : Nat) :
    Tri Tryz.prog 8 [.slice a2 p1.length c3] [imm k_sched_Record a2 c3 p1] (fun v H' => v = .bool r ∧ H' = []) := by
  refine Tri.intro1 Tryz.func8 rfl rfl rfl (fun F => ?_)
  unfold tale_Kept.f at hm
  refine To.seq ?_
  refine To.region (l := [0]) rfl ?_
  refine To.pure rfl (Want.none rfl) rfl rfl (pe_assign rfl rfl) ?_
  refine To.done ?_
  refine To.keep (Keep.cons 0 rfl Keep.nil) ?_
  refine To.nx ?_
  refine To.seq ?_
  refine To.seq ?_
  refine To.region (l := [0, 1, 2]) rfl ?_
  refine To.pure rfl (Want.none rfl) rfl rfl (pe_move rfl rfl) ?_
  refine To.pure rfl (Want.none rfl) rfl rfl (pe_len rfl rfl Tryz.underlying22) ?_
  refine To.pure rfl (Want.none rfl) rfl rfl (pe_move rfl rfl) ?_
  refine To.done ?_
  refine To.keep (Keep.cons 9 rfl (Keep.cons 8 rfl (Keep.cons 7 rfl (Keep.cons 0 rfl Keep.nil)))) ?_
  refine To.nx ?_
  refine To.block ?_
  refine To.loop (fun kk a w => ∃ (x1137 : Int), tale_Kept.l1 p1 kk x1137 = some r ∧ Knows 28 a [(0, .slice a2 p1.length c3), (7, .slice a2 p1.length c3), (8, .int .i64 (p1.length : Int)), (9, .int .i64 x1137)] ∧ Holds w (imm k_sched_Record a2 c3 p1 :: F)) ?_ ?_ k ?_
  · rintro a w ⟨_, hm, _, _⟩; rw [tale_Kept.l1] at hm; cases hm
  · rintro k1172 a w ⟨x1137, hm, ha, hw⟩
    refine To.at ha hw ?_
    clear ha hw a w
    rw [tale_Kept.l1] at hm
    refine To.seq ?_
    refine To.region (l := [0]) rfl ?_
    refine To.pure rfl (Want.none rfl) rfl rfl (pe_int rfl rfl rfl bi_lss) ?_
    refine To.done ?_
    refine To.keep (Keep.cons 10 rfl (Keep.cons 0 rfl (Keep.cons 7 rfl (Keep.cons 8 rfl (Keep.cons 9 rfl Keep.nil))))) ?_
    refine To.nx ?_
    refine To.seq ?_
    refine To.cond rfl (fun hc => ?_) (fun hc => ?_)
    · replace hm := ifT hc hm
      refine To.skip ?_
      refine To.nx ?_
      refine To.seq ?_
      refine To.block ?_
      refine To.seq ?_
      refine To.region (l := [0, 1, 2, 3, 4, 5]) rfl ?_
      refine To.pure rfl (Want.none rfl) rfl rfl (pe_move rfl rfl) ?_
      obtain ⟨e1174, h_e1174, hm⟩ := bindE hm
      obtain ⟨h0_e1174, hl_e1174, hx_e1174⟩ := ixE h_e1174
      refine To.el_sched_Record (i := (x1137 : Int).toNat) .z hx_e1174 ?_
      rintro b1177 r1178 a1175 c1176 e; cases e
      refine To.pure rfl (Want.none rfl) rfl rfl (pe_idx rfl rfl rfl Tryz.underlying22 ty32 h0_e1174 hl_e1174 rfl) ?_
      refine To.pure rfl (Want.none rfl) rfl rfl (pe_load rfl rfl (.s .z) .ro rfl (.t (.t (.t (.t (.t (.t (.t (.t (.t (.t (.t (.t (.t (.t (.t (.t (.t (.t (.t .z))))))))))))))))))) ty32 rfl nofun rfl) ?_
      refine To.step rfl (Want.none rfl) rfl rfl (st_alloc rfl zero32) ?_
      rintro _ _ ⟨b1179, rfl, rfl⟩
      refine To.pure rfl (Want.none rfl) rfl rfl (pe_assign rfl rfl) ?_
      refine To.step0 rfl (Want.none rfl) rfl (st_store rfl rfl rfl rfl .z rfl (.t (.t (.t (.t (.t (.t (.t (.t (.t (.t (.t (.t (.t (.t (.t (.t (.t (.t (.t .z))))))))))))))))))) ty32 rfl rfl) ?_
      rintro _ _ rfl
      refine To.done ?_
      refine To.keep (Keep.cons 3 rfl (Keep.cons 4 rfl (Keep.cons 0 rfl (Keep.cons 7 rfl (Keep.cons 8 rfl (Keep.cons 9 rfl Keep.nil)))))) ?_
      refine To.sel (.cons .z (.cons .z (.drop .all))) ?_
      refine To.nx ?_
      refine To.seq ?_
      refine To.region (l := [0, 1, 2, 3, 4, 5]) rfl ?_
      refine To.pure rfl (Want.none rfl) rfl rfl (pe_move rfl rfl) ?_
      refine To.pure rfl (Want.none rfl) rfl rfl (pe_move rfl rfl) ?_
      refine To.pure rfl (Want.none rfl) rfl rfl (pe_int rfl rfl rfl bi_add) ?_
      obtain ⟨z1180, h_z1180, hm⟩ := bindE hm
      obtain ⟨hb_z1180, _, hn_z1180⟩ := lsliceE h_z1180
      refine To.cutSl (.s (.s .z)) h_z1180 (sz := 19) rfl ?_
      rintro a1181 ⟨ha_z1180, hc_z1180⟩
      refine To.pure rfl (Want.none rfl) rfl rfl (pe_cut (lo := IntKind.i64.wrap (x1137 + 1)) (hi := (p1.length : Int)) rfl rfl ⟨_, rfl⟩ rfl Tryz.underlying22 ty32 hb_z1180 hc_z1180 hn_z1180 ha_z1180) ?_
      refine To.pure rfl (Want.none rfl) rfl rfl (pe_len rfl rfl Tryz.underlying22) ?_
      refine To.pure rfl (Want.none rfl) rfl rfl (pe_move rfl rfl) ?_
      refine To.done ?_
      refine To.keep (Keep.cons 19 rfl (Keep.cons 18 rfl (Keep.cons 17 rfl (Keep.cons 4 rfl (Keep.cons 0 rfl (Keep.cons 7 rfl (Keep.cons 8 rfl (Keep.cons 9 rfl Keep.nil)))))))) ?_
      refine To.nx ?_
      refine To.block ?_
      refine To.loop (fun kk a w => ∃ (x1189 : Int), tale_Kept.l2 z1180 e1174 (tale_Kept.l1 p1 k1172) x1137 kk x1189 = some r ∧ Knows 28 a [(0, .slice (some ⟨b1177, r1178, none⟩) p1.length c3), (4, .pointer (some ⟨b1179, 0, none⟩)), (7, .slice (some ⟨b1177, r1178, none⟩) p1.length c3), (8, .int .i64 (p1.length : Int)), (9, .int .i64 x1137), (17, .slice a1181 z1180.length (c3 - (IntKind.i64.wrap (x1137 + 1) : Int).toNat)), (18, .int .i64 (z1180.length : Int)), (19, .int .i64 x1189)] ∧ Holds w (imm k_sched_Record (some ⟨b1177, r1178, none⟩) c3 p1 :: pt b1179 0 [.int .i64 e1174.Client, .int .i64 e1174.Index, .int .i64 e1174.Op.Kind, .string (S e1174.Op.Path), .int .i64 e1174.Op.Off, .int .i64 e1174.Op.N, .int .i64 e1174.Op.ID, .string (S e1174.Op.Image), .int .i64 e1174.Result.Err, .int .i64 e1174.Result.Kind, .int .i64 e1174.Result.Size, .int .i64 e1174.Result.Where, .int .i64 e1174.Result.ID, .string (S e1174.Result.Text), .slice a1175 e1174.Result.Names.length c1176, .bool e1174.Result.End, .int .i64 e1174.Call, .int .i64 e1174.Mark, .int .i64 e1174.Return] :: imm kStr a1175 c1176 e1174.Result.Names :: imm k_sched_Record a1181 (c3 - (IntKind.i64.wrap (x1137 + 1) : Int).toNat) z1180 :: F)) ?_ ?_ k1172 ?_
      · rintro a w ⟨_, hm, _, _⟩; rw [tale_Kept.l2] at hm; cases hm
      · rintro k1198 a w ⟨x1189, hm, ha, hw⟩
        refine To.at ha hw ?_
        clear ha hw a w
        rw [tale_Kept.l2] at hm
        refine To.seq ?_
        refine To.region (l := [0]) rfl ?_
        refine To.pure rfl (Want.none rfl) rfl rfl (pe_int rfl rfl rfl bi_lss) ?_
        refine To.done ?_
        refine To.keep (Keep.cons 20 rfl (Keep.cons 0 rfl (Keep.cons 4 rfl (Keep.cons 7 rfl (Keep.cons 8 rfl (Keep.cons 9 rfl (Keep.cons 17 rfl (Keep.cons 18 rfl (Keep.cons 19 rfl Keep.nil))))))))) ?_
        refine To.nx ?_
        refine To.seq ?_
        refine To.cond rfl (fun hc => ?_) (fun hc => ?_)
        · replace hm := ifT hc hm
          refine To.skip ?_
          refine To.nx ?_
          refine To.seq ?_
          refine To.block ?_
          refine To.seq ?_
          refine To.region (l := [0, 1, 2, 3]) rfl ?_
          obtain ⟨e1200, h_e1200, hm⟩ := bindE hm
          obtain ⟨h0_e1200, hl_e1200, hx_e1200⟩ := ixE h_e1200
          refine To.el_sched_Record (i := (x1189 : Int).toNat) (.s (.s (.s .z))) hx_e1200 ?_
          rintro b1203 r1204 a1201 c1202 e; cases e
          refine To.pure rfl (Want.none rfl) rfl rfl (pe_idx rfl rfl rfl Tryz.underlying22 ty32 h0_e1200 hl_e1200 rfl) ?_
          refine To.pure rfl (Want.none rfl) rfl rfl (pe_load rfl rfl (.s .z) .ro rfl (.t (.t (.t (.t (.t (.t (.t (.t (.t (.t (.t (.t (.t (.t (.t (.t (.t (.t (.t .z))))))))))))))))))) ty32 rfl nofun rfl) ?_
          refine To.step rfl (Want.none rfl) rfl rfl (st_alloc rfl zero32) ?_
          rintro _ _ ⟨b1205, rfl, rfl⟩
          refine To.step0 rfl (Want.none rfl) rfl (st_store rfl rfl rfl rfl .z rfl (.t (.t (.t (.t (.t (.t (.t (.t (.t (.t (.t (.t (.t (.t (.t (.t (.t (.t (.t .z))))))))))))))))))) ty32 rfl rfl) ?_
          rintro _ _ rfl
          refine To.done ?_
          refine To.keep (Keep.cons 6 rfl (Keep.cons 0 rfl (Keep.cons 4 rfl (Keep.cons 7 rfl (Keep.cons 8 rfl (Keep.cons 9 rfl (Keep.cons 17 rfl (Keep.cons 18 rfl (Keep.cons 19 rfl Keep.nil))))))))) ?_
          refine To.sel (.cons .z (.cons .z (.drop .all))) ?_
          refine To.nx ?_
          refine To.seq ?_
          refine To.region (l := [0, 1, 2]) rfl ?_
          refine To.pure rfl (Want.none rfl) rfl rfl (pe_load rfl rfl .z .pt rfl (.t (.t (.t (.t (.t (.t (.t (.t (.t (.t (.t (.t (.t (.t (.t (.t (.t (.t (.t .z))))))))))))))))))) ty32 rfl nofun rfl) ?_
          refine To.pure rfl (Want.none rfl) rfl rfl (pe_load rfl rfl (.s (.s (.s .z))) .pt rfl (.t (.t (.t (.t (.t (.t (.t (.t (.t (.t (.t (.t (.t (.t (.t (.t (.t (.t (.t .z))))))))))))))))))) ty32 rfl nofun rfl) ?_
          obtain ⟨y1206, h_y1206, hm⟩ := bindE hm
          refine To.step rfl (Want.none rfl) rfl rfl (st_call (tale_Before.tri k1198 h_y1206 a1201 c1202 a1175 c1176) rfl rfl fun7 (.dup (.s .z) inferInstance (.dup (.s (.s (.s (.s .z)))) inferInstance .all))) ?_
          rintro _ _ ⟨_, ⟨rfl, rfl⟩, rfl⟩
          refine To.app0 ?_
          refine To.done ?_
          refine To.keep (Keep.cons 25 rfl (Keep.cons 0 rfl (Keep.cons 4 rfl (Keep.cons 7 rfl (Keep.cons 8 rfl (Keep.cons 9 rfl (Keep.cons 17 rfl (Keep.cons 18 rfl (Keep.cons 19 rfl Keep.nil))))))))) ?_
          refine To.sel (.drop (.drop .all)) ?_
          refine To.nx ?_
          refine To.cond rfl (fun hc => ?_) (fun hc => ?_)
          · replace hm := ifT hc hm
            refine To.seq ?_
            refine To.region (l := [0]) rfl ?_
            refine To.pure rfl (Want.none rfl) rfl rfl (pe_assign rfl rfl) ?_
            refine To.done ?_
            refine To.keep (Keep.cons 2 rfl Keep.nil) ?_
            refine To.sel (.drop (.drop (.drop (.drop .all)))) ?_
            refine To.nx ?_
            refine To.ret ?_
            refine To.br ?_
            refine To.tr ?_
            refine To.tr ?_
            refine To.br ?_
            refine To.br ?_
            refine To.tr ?_
            refine To.tr ?_
            refine To.br ?_
            refine To.tr ?_
            cases hm
            exact To.back rfl (.tmp rfl .nil) rfl ⟨rfl, rfl⟩ .all
          · replace hm := ifF hc hm
            refine To.skip ?_
            refine To.bn ?_
            refine To.nx ?_
            refine To.region (l := [0, 1]) rfl ?_
            refine To.pure rfl (Want.none rfl) rfl rfl (pe_int rfl rfl rfl bi_add) ?_
            refine To.pure rfl (Want.none rfl) rfl rfl (pe_move rfl rfl) ?_
            refine To.done ?_
            refine To.keep (Keep.cons 19 rfl (Keep.cons 0 rfl (Keep.cons 4 rfl (Keep.cons 7 rfl (Keep.cons 8 rfl (Keep.cons 9 rfl (Keep.cons 17 rfl (Keep.cons 18 rfl Keep.nil)))))))) ?_
            exact fun a w ha hw => ⟨IntKind.i64.wrap (x1189 + 1), hm, ha.keep (Keep.cons 0 rfl (Keep.cons 4 rfl (Keep.cons 7 rfl (Keep.cons 8 rfl (Keep.cons 9 rfl (Keep.cons 17 rfl (Keep.cons 18 rfl (Keep.cons 19 rfl Keep.nil)))))))), (Sel.imp (.dup .z inferInstance (.cons (.s .z) (.dup (.s .z) inferInstance (.dup (.s (.s .z)) inferInstance (.drop (.drop (.drop .all)))))))) w hw⟩
        · replace hm := ifF hc hm
          refine To.exit ?_
          refine To.tx ?_
          refine To.tx ?_
          refine To.bx ?_
          refine To.bn ?_
          refine To.nx ?_
          refine To.region (l := [0, 1]) rfl ?_
          refine To.pure rfl (Want.none rfl) rfl rfl (pe_int rfl rfl rfl bi_add) ?_
          refine To.pure rfl (Want.none rfl) rfl rfl (pe_move rfl rfl) ?_
          refine To.done ?_
          refine To.keep (Keep.cons 9 rfl (Keep.cons 0 rfl (Keep.cons 7 rfl (Keep.cons 8 rfl Keep.nil)))) ?_
          refine To.sel (.cons .z (.drop (.drop (.drop .all)))) ?_
          exact fun a w ha hw => ⟨IntKind.i64.wrap (x1137 + 1), hm, ha.keep (Keep.cons 0 rfl (Keep.cons 7 rfl (Keep.cons 8 rfl (Keep.cons 9 rfl Keep.nil)))), (Sel.imp (.dup .z inferInstance (.drop .all))) w hw⟩
      · skip
        exact fun a w ha hw => ⟨0, hm, ha.keep (Keep.cons 0 rfl (Keep.cons 4 rfl (Keep.cons 7 rfl (Keep.cons 8 rfl (Keep.cons 9 rfl (Keep.cons 17 rfl (Keep.cons 18 rfl (Keep.cons 19 rfl Keep.nil)))))))), (Sel.imp (.dup (.s (.s (.s .z))) inferInstance (.cons (.s .z) (.dup (.s .z) inferInstance (.dup .z inferInstance (.drop (.drop (.drop .all)))))))) w hw⟩
    · replace hm := ifF hc hm
      refine To.exit ?_
      refine To.tx ?_
      refine To.tx ?_
      refine To.bx ?_
      refine To.nx ?_
      refine To.seq ?_
      refine To.region (l := [0]) rfl ?_
      refine To.pure rfl (Want.none rfl) rfl rfl (pe_assign rfl rfl) ?_
      refine To.done ?_
      refine To.keep (Keep.cons 2 rfl Keep.nil) ?_
      refine To.sel (.drop .all) ?_
      refine To.nx ?_
      refine To.ret ?_
      cases hm
      exact To.back rfl (.tmp rfl .nil) rfl ⟨rfl, rfl⟩ .all
  · skip
    exact fun a w ha hw => ⟨0, hm, ha.keep (Keep.cons 0 rfl (Keep.cons 7 rfl (Keep.cons 8 rfl (Keep.cons 9 rfl Keep.nil)))), (Sel.imp (.dup .z inferInstance (.drop .all))) w hw⟩
end Go.Proofs.M

set_option linter.unusedVariables false
set_option maxRecDepth 10000
namespace Go.Proofs.M
open Go Go.WG
/-- slices.Clone[[]socage/sched.Record,socage/sched.Record] -/
def slices_Clone_Record.f (k : Nat) (p1 : List T_sched_Record) : Option (List T_sched_Record) := (lim (([] : List T_sched_Record).length + p1.length ≤ BIG) ((some (([] : List T_sched_Record) ++ p1))))
theorem slices_Clone_Record.tri (k : Nat) {r : (List T_sched_Record)} {p1 : List T_sched_Record} (hm : slices_Clone_Record.f k p1 = some r) (a2 : Option Addr) (c3 : Nat) :
    Tri Tryz.prog 17 [.slice a2 p1.length c3] [imm k_sched_Record a2 c3 p1] (fun v H' => ∃ (az2 : Option Addr), ∃ (cz3 : Nat), v = .slice az2 r.length cz3 ∧ H' = [own k_sched_Record az2 cz3 r]) := by
  refine Tri.intro1 Tryz.func17 rfl rfl rfl (fun F => ?_)
  unfold slices_Clone_Record.f at hm
  refine To.seq ?_
  refine To.region (l := [0]) rfl ?_
  refine To.pure rfl (Want.none rfl) rfl rfl (pe_assign rfl rfl) ?_
  refine To.done ?_
  refine To.keep (Keep.cons 0 rfl Keep.nil) ?_
  refine To.nx ?_
  refine To.seq ?_
  refine To.seq ?_
  refine To.region (l := [0, 1]) rfl ?_
  refine To.pure rfl (Want.none rfl) rfl rfl (pe_move rfl rfl) ?_
  refine To.pure rfl (Want.none rfl) rfl rfl (pe_sleql rfl rfl rfl Tryz.underlying22) ?_
  refine To.done ?_
  refine To.keep (Keep.cons 4 rfl (Keep.cons 0 rfl Keep.nil)) ?_
  refine To.nx ?_
  refine To.cond rfl (fun hc => ?_) (fun hc => ?_)
  · refine To.ex (Ex.imm_null .z hc) fun _ hn1006 => ?_
    replace hm : (some []) = some r := by rw [hn1006] at hm; exact hm
    refine To.seq ?_
    refine To.region (l := [0]) rfl ?_
    refine To.pure rfl (Want.none rfl) rfl rfl (pe_assign rfl rfl) ?_
    refine To.done ?_
    refine To.keep (Keep.cons 2 rfl Keep.nil) ?_
    refine To.sel (.drop .all) ?_
    refine To.nx ?_
    refine To.ret ?_
    refine To.tr ?_
    refine To.imp (Imp.own_nil (k := k_sched_Record)) ?_
    cases hm
    exact To.back rfl (.tmp rfl .nil) rfl ⟨none, 0, rfl, rfl⟩ (.cons .z .all)
  · refine To.skip ?_
    refine To.nx ?_
    refine To.seq ?_
    refine To.region (l := [0, 1, 2, 3]) rfl ?_
    refine To.step rfl (Want.none rfl) rfl rfl (st_row (vs := []) rfl rfl rfl rfl Tryz.underlying22 ty32 zsz22 rfl rfl) ?_
    rintro _ _ ⟨b1007, rfl, rfl⟩
    refine To.pull .z (To.imp (Imp.row (k := k_sched_Record) (xs := ([] : List T_sched_Record)) .nil rfl) ?_)
    refine To.sel .all ?_
    refine To.pure rfl (Want.none rfl) rfl rfl (pe_move rfl rfl) ?_
    obtain ⟨hl1008, hm⟩ := limE hm
    refine To.step rfl (Want.none rfl) rfl rfl (st_append (xs := ([] : List T_sched_Record)) (ys := p1) rfl rfl rfl elt22 rfl zsz22 .z (Src.imm .z) hl1008) ?_
    rintro _ _ ⟨a1009, c1010, rfl, rfl⟩
    refine To.pure rfl (Want.none rfl) rfl rfl (pe_assign rfl rfl) ?_
    refine To.done ?_
    refine To.keep (Keep.cons 2 rfl Keep.nil) ?_
    refine To.sel (.cons .z (.drop .all)) ?_
    refine To.nx ?_
    refine To.ret ?_
    cases hm
    exact To.back rfl (.tmp rfl .nil) rfl ⟨a1009, c1010, rfl, rfl⟩ (.cons .z .all)
end Go.Proofs.M

set_option linter.unusedVariables false
set_option maxRecDepth 10000
namespace Go.Proofs.M
open Go Go.WG
/-- socage/tale.Order$1 -/
def tale_Order_1.f (k : Nat) (p1 : T_sched_Record) (p4 : T_sched_Record) : Option Int := (some (IntKind.i64.wrap (p1.Mark - p4.Mark)))
theorem tale_Order_1.tri (k : Nat) {r : Int} {p1 : T_sched_Record} {p4 : T_sched_Record} (hm : tale_Order_1.f k p1 p4 = some r) (a2 : Option Addr) (c3 : Nat) (a5 : Option Addr) (c6 : Nat) :
    Tri Tryz.prog 19 [.agg ⟨[.int .i64 p1.Client, .int .i64 p1.Index, .int .i64 p1.Op.Kind, .string (S p1.Op.Path), .int .i64 p1.Op.Off, .int .i64 p1.Op.N, .int .i64 p1.Op.ID, .string (S p1.Op.Image), .int .i64 p1.Result.Err, .int .i64 p1.Result.Kind, .int .i64 p1.Result.Size, .int .i64 p1.Result.Where, .int .i64 p1.Result.ID, .string (S p1.Result.Text), .slice a2 p1.Result.Names.length c3, .bool p1.Result.End, .int .i64 p1.Call, .int .i64 p1.Mark, .int .i64 p1.Return]⟩, .agg ⟨[.int .i64 p4.Client, .int .i64 p4.Index, .int .i64 p4.Op.Kind, .string (S p4.Op.Path), .int .i64 p4.Op.Off, .int .i64 p4.Op.N, .int .i64 p4.Op.ID, .string (S p4.Op.Image), .int .i64 p4.Result.Err, .int .i64 p4.Result.Kind, .int .i64 p4.Result.Size, .int .i64 p4.Result.Where, .int .i64 p4.Result.ID, .string (S p4.Result.Text), .slice a5 p4.Result.Names.length c6, .bool p4.Result.End, .int .i64 p4.Call, .int .i64 p4.Mark, .int .i64 p4.Return]⟩] [imm kStr a2 c3 p1.Result.Names, imm kStr a5 c6 p4.Result.Names] (fun v H' => v = .int .i64 r ∧ H' = []) := by
  refine Tri.intro2 Tryz.func19 rfl rfl rfl (fun F => ?_)
  unfold tale_Order_1.f at hm
  refine To.seq ?_
  refine To.region (l := [0, 1, 2]) rfl ?_
  refine To.step rfl (Want.none rfl) rfl rfl (st_box rfl rfl rfl) ?_
  rintro _ _ ⟨b1003, rfl, rfl⟩
  refine To.step rfl (Want.none rfl) rfl rfl (st_box rfl rfl rfl) ?_
  rintro _ _ ⟨b1004, rfl, rfl⟩
  refine To.pure rfl (Want.none rfl) rfl rfl (pe_assign rfl rfl) ?_
  refine To.done ?_
  refine To.keep (Keep.cons 3 rfl (Keep.cons 2 rfl Keep.nil)) ?_
  refine To.nx ?_
  refine To.seq ?_
  refine To.region (l := [0, 1, 2, 3, 4, 5]) rfl ?_
  refine To.pure rfl (Want.none rfl) rfl rfl (pe_fld rfl rfl fld32_5 ty3 rfl rfl) ?_
  refine To.pure rfl (Want.none rfl) rfl rfl (pe_load rfl rfl (.s .z) .pt rfl (.d (.d (.d (.d (.d (.d (.d (.d (.d (.d (.d (.d (.d (.d (.d (.d (.d (.t .z)))))))))))))))))) ty3 rfl (fun _ => rfl) rfl) ?_
  refine To.pure rfl (Want.none rfl) rfl rfl (pe_fld rfl rfl fld32_5 ty3 rfl rfl) ?_
  refine To.pure rfl (Want.none rfl) rfl rfl (pe_load rfl rfl .z .pt rfl (.d (.d (.d (.d (.d (.d (.d (.d (.d (.d (.d (.d (.d (.d (.d (.d (.d (.t .z)))))))))))))))))) ty3 rfl (fun _ => rfl) rfl) ?_
  refine To.pure rfl (Want.none rfl) rfl rfl (pe_int rfl rfl rfl bi_sub) ?_
  refine To.pure rfl (Want.none rfl) rfl rfl (pe_assign rfl rfl) ?_
  refine To.done ?_
  refine To.keep (Keep.cons 4 rfl Keep.nil) ?_
  refine To.sel (.drop (.drop (.drop (.drop .all)))) ?_
  refine To.nx ?_
  refine To.ret ?_
  cases hm
  exact To.back rfl (.tmp rfl .nil) rfl ⟨rfl, rfl⟩ .all
end Go.Proofs.M

set_option linter.unusedVariables false
set_option maxRecDepth 10000
namespace Go.Proofs.M
open Go Go.WG
/-- slices.insertionSortCmpFunc[socage/sched.Record] -/
def slices_insertionSortCmpFunc_sched_Record.j3 (x2051 : List T_sched_Record) (x2052 : Int) (rec2119 : (List T_sched_Record) → Int → Option (List T_sched_Record)) (rec1987 : (List T_sched_Record) → Int → Option (List T_sched_Record)) (x1788 : Int) (x2150 : Bool) : Option (List T_sched_Record) := (if x2150 = true then ((ix x2051 (IntKind.i64.wrap (x2052 - 1))).bind fun e2151 => (ix x2051 x2052).bind fun e2156 => ((ix (x2051.set (x2052 : Int).toNat e2151) (IntKind.i64.wrap (x2052 - 1))).bind fun e2165 => (rec2119 ((x2051.set (x2052 : Int).toNat e2151).set (IntKind.i64.wrap (x2052 - 1) : Int).toNat e2156) (IntKind.i64.wrap (x2052 - 1))))) else (rec1987 x2051 (IntKind.i64.wrap (x1788 + 1))))
def slices_insertionSortCmpFunc_sched_Record.l2 (p4 : Int) (rec1987 : (List T_sched_Record) → Int → Option (List T_sched_Record)) (x1788 : Int) : Nat → (List T_sched_Record) → Int → Option (List T_sched_Record)
  | 0, _, _ => none
  | k2118 + 1, x2051, x2052 => (if (decide (x2052 > p4)) = true then ((ix x2051 x2052).bind fun e2169 => (ix x2051 (IntKind.i64.wrap (x2052 - 1))).bind fun e2174 => ((tale_Order_1.f k2118 e2169 e2174).bind fun y2181 => (slices_insertionSortCmpFunc_sched_Record.j3 x2051 x2052 (slices_insertionSortCmpFunc_sched_Record.l2 p4 rec1987 x1788 k2118) rec1987 x1788 (decide (y2181 < 0))))) else (slices_insertionSortCmpFunc_sched_Record.j3 x2051 x2052 (slices_insertionSortCmpFunc_sched_Record.l2 p4 rec1987 x1788 k2118) rec1987 x1788 false))
def slices_insertionSortCmpFunc_sched_Record.l1 (p5 : Int) (p4 : Int) : Nat → (List T_sched_Record) → Int → Option (List T_sched_Record)
  | 0, _, _ => none
  | k1986 + 1, x1787, x1788 => (if (decide (x1788 < p5)) = true then (slices_insertionSortCmpFunc_sched_Record.l2 p4 (slices_insertionSortCmpFunc_sched_Record.l1 p5 p4 k1986) x1788 k1986 x1787 x1788) else (some x1787))
def slices_insertionSortCmpFunc_sched_Record.f (k : Nat) (p1 : List T_sched_Record) (p4 : Int) (p5 : Int) : Option (List T_sched_Record) := (slices_insertionSortCmpFunc_sched_Record.l1 p5 p4 k p1 (IntKind.i64.wrap (p4 + 1)))
theorem slices_insertionSortCmpFunc_sched_Record.tri (k : Nat) {r : (List T_sched_Record)} {p1 : List T_sched_Record} {p4 : Int} {p5 : Int} (hm : slices_insertionSortCmpFunc_sched_Record.f k p1 p4 p5 = some r) (a2 : Option Addr) (c3 : Nat) :
    Tri Tryz.prog 23 [.slice a2 p1.length c3, .int .i64 p4, .int .i64 p5, .func (.func 19) ⟨[]⟩ ⟨[]⟩] [own k_sched_Record a2 c3 p1] (fun v H' => v = .tuple ⟨[]⟩ ∧ H' = [own k_sched_Record a2 c3 r]) := by
  refine Tri.intro1 Tryz.func23 rfl rfl rfl (fun F => ?_)
  unfold slices_insertionSortCmpFunc_sched_Record.f at hm
  refine To.seq ?_
  refine To.region (l := [0, 1, 2]) rfl ?_
  refine To.pure rfl (Want.none rfl) rfl rfl (pe_move rfl rfl) ?_
  refine To.pure rfl (Want.none rfl) rfl rfl (pe_int rfl rfl rfl bi_add) ?_
  refine To.pure rfl (Want.none rfl) rfl rfl (pe_assign rfl rfl) ?_
  refine To.done ?_
  refine To.keep (Keep.cons 8 rfl (Keep.cons 0 rfl (Keep.cons 1 rfl (Keep.cons 2 rfl (Keep.cons 3 rfl Keep.nil))))) ?_
  refine To.nx ?_
  refine To.block ?_
  refine To.loop (fun kk a w => ∃ (x1787 : List T_sched_Record), ∃ (x1788 : Int), slices_insertionSortCmpFunc_sched_Record.l1 p5 p4 kk x1787 x1788 = some r ∧ Knows 53 a [(0, .slice a2 x1787.length c3), (1, .int .i64 p4), (2, .int .i64 p5), (3, .func (.func 19) ⟨[]⟩ ⟨[]⟩), (8, .int .i64 x1788)] ∧ Holds w (own k_sched_Record a2 c3 x1787 :: F)) ?_ ?_ k ?_
  · rintro a w ⟨_, _, hm, _, _⟩; rw [slices_insertionSortCmpFunc_sched_Record.l1] at hm; cases hm
  · rintro k1986 a w ⟨x1787, x1788, hm, ha, hw⟩
    refine To.at ha hw ?_
    clear ha hw a w
    rw [slices_insertionSortCmpFunc_sched_Record.l1] at hm
    refine To.seq ?_
    refine To.seq ?_
    refine To.region (l := [0, 1, 2]) rfl ?_
    refine To.pure rfl (Want.none rfl) rfl rfl (pe_move rfl rfl) ?_
    refine To.pure rfl (Want.none rfl) rfl rfl (pe_move rfl rfl) ?_
    refine To.pure rfl (Want.none rfl) rfl rfl (pe_int rfl rfl rfl bi_lss) ?_
    refine To.done ?_
    refine To.keep (Keep.cons 14 rfl (Keep.cons 0 rfl (Keep.cons 1 rfl (Keep.cons 2 rfl (Keep.cons 3 rfl (Keep.cons 8 rfl Keep.nil)))))) ?_
    refine To.nx ?_
    refine To.cond rfl (fun hc => ?_) (fun hc => ?_)
    · replace hm := ifT hc hm
      refine To.skip ?_
      refine To.nx ?_
      refine To.seq ?_
      refine To.block ?_
      refine To.seq ?_
      refine To.region (l := [0, 1]) rfl ?_
      refine To.pure rfl (Want.none rfl) rfl rfl (pe_move rfl rfl) ?_
      refine To.pure rfl (Want.none rfl) rfl rfl (pe_assign rfl rfl) ?_
      refine To.done ?_
      refine To.keep (Keep.cons 9 rfl (Keep.cons 0 rfl (Keep.cons 1 rfl (Keep.cons 2 rfl (Keep.cons 3 rfl (Keep.cons 8 rfl Keep.nil)))))) ?_
      refine To.nx ?_
      refine To.block ?_
      refine To.loop (fun kk a w => ∃ (x2051 : List T_sched_Record), ∃ (x2052 : Int), slices_insertionSortCmpFunc_sched_Record.l2 p4 (slices_insertionSortCmpFunc_sched_Record.l1 p5 p4 k1986) x1788 kk x2051 x2052 = some r ∧ Knows 53 a [(0, .slice a2 x2051.length c3), (1, .int .i64 p4), (2, .int .i64 p5), (3, .func (.func 19) ⟨[]⟩ ⟨[]⟩), (8, .int .i64 x1788), (9, .int .i64 x2052)] ∧ Holds w (own k_sched_Record a2 c3 x2051 :: F)) ?_ ?_ k1986 ?_
      · rintro a w ⟨_, _, hm, _, _⟩; rw [slices_insertionSortCmpFunc_sched_Record.l2] at hm; cases hm
      · rintro k2118 a w ⟨x2051, x2052, hm, ha, hw⟩
        refine To.at ha hw ?_
        clear ha hw a w
        rw [slices_insertionSortCmpFunc_sched_Record.l2] at hm
        refine To.seq ?_
        refine To.cut (fun a w => ∃ (x2150 : Bool), slices_insertionSortCmpFunc_sched_Record.j3 x2051 x2052 (slices_insertionSortCmpFunc_sched_Record.l2 p4 (slices_insertionSortCmpFunc_sched_Record.l1 p5 p4 k1986) x1788 k2118) (slices_insertionSortCmpFunc_sched_Record.l1 p5 p4 k1986) x1788 x2150 = some r ∧ Knows 53 a [(0, .slice a2 x2051.length c3), (1, .int .i64 p4), (2, .int .i64 p5), (3, .func (.func 19) ⟨[]⟩ ⟨[]⟩), (8, .int .i64 x1788), (9, .int .i64 x2052), (34, .bool x2150)] ∧ Holds w (own k_sched_Record a2 c3 x2051 :: F)) ?_ ?_
        · rintro a w ⟨x2150, hm, ha, hw⟩
          refine To.at ha hw ?_
          clear ha hw a w
          unfold slices_insertionSortCmpFunc_sched_Record.j3 at hm
          refine To.cond rfl (fun hc => ?_) (fun hc => ?_)
          · replace hm := ifT hc hm
            refine To.skip ?_
            refine To.nx ?_
            refine To.seq ?_
            refine To.block ?_
            obtain ⟨e2151, h_e2151, hm⟩ := bindE hm
            obtain ⟨h0_e2151, hl_e2151, hx_e2151⟩ := ixE h_e2151
            refine To.ex ( Ex.own_some .z hx_e2151) fun q e => ?_
            obtain ⟨b2152, r2153⟩ := q; cases e
            refine To.fo_sched_Record (i := (IntKind.i64.wrap (x2052 - 1) : Int).toNat) .z hx_e2151 ?_
            rintro b_ r_ a2154 c2155 e; cases e
            refine To.sel (.dup .z inferInstance .all) ?_
            refine To.imp (mk_sched_Record (x := e2151)) ?_
            refine To.sel (.cons .z (.cons (.s .z) (.cons (.s .z) .all))) (To.imp (unfocus_same rfl hx_e2151) ?_)
            obtain ⟨e2156, h_e2156, hm⟩ := bindE hm
            obtain ⟨h0_e2156, hl_e2156, hx_e2156⟩ := ixE h_e2156
            refine To.fo_sched_Record (i := (x2052 : Int).toNat) .z hx_e2156 ?_
            rintro b_ r_ a2157 c2158 e; cases e
            refine To.sel (.dup .z inferInstance .all) ?_
            refine To.imp (mk_sched_Record (x := e2156)) ?_
            refine To.sel (.cons .z (.cons (.s .z) (.cons (.s .z) .all))) (To.imp (unfocus_same rfl hx_e2156) ?_)
            refine To.draws [0, 0, 0, 0, 8, 0, 0, 64, 224, 480, 0, 0, 3072, 7168, 16355, 32739, 65535, 131071] mixed (by kernel_rfl) (by kernel_rfl) ?_
            refine Dr.pure 0 37 _ _ rfl rfl rfl rfl rfl rfl (by kernel_rfl) (PureG.of (Want.none rfl) (pe_move rfl rfl)) ?_
            refine Dr.pure 1 38 _ _ rfl rfl rfl rfl rfl rfl (by kernel_rfl) (PureG.of (Want.none rfl) (pe_move rfl rfl)) ?_
            refine Dr.pure 2 39 _ _ rfl rfl rfl rfl rfl rfl (by kernel_rfl) (PureG.of (Want.none rfl) (pe_move rfl rfl)) ?_
            refine Dr.pure 3 40 _ _ rfl rfl rfl rfl rfl rfl (by kernel_rfl) (PureG.of (Want.none rfl) (pe_move rfl rfl)) ?_
            refine Dr.pure 4 41 _ _ rfl rfl rfl rfl rfl rfl (by kernel_rfl) (PureG.of (Want.none rfl) (pe_int rfl rfl rfl bi_sub)) ?_
            refine Dr.pure 5 42 _ _ rfl rfl rfl rfl rfl rfl (by kernel_rfl) (PureG.of (Want.none rfl) (pe_move rfl rfl)) ?_
            refine Dr.pure 6 43 _ _ rfl rfl rfl rfl rfl rfl (by kernel_rfl) (PureG.of (Want.none rfl) (pe_move rfl rfl)) ?_
            refine Dr.pure 7 44 _ _ rfl rfl rfl rfl rfl rfl (by kernel_rfl) (PureG.of (Want.none rfl) (pe_int rfl rfl rfl bi_sub)) ?_
            refine Dr.pure 8 45 _ _ rfl rfl rfl rfl rfl rfl (by kernel_rfl) (PureG.of (Want.none rfl) (pe_idx rfl rfl rfl Tryz.underlying22 ty32 h0_e2151 hl_e2151 rfl)) ?_
            refine Dr.fo_sched_Record (i := (IntKind.i64.wrap (x2052 - 1) : Int).toNat) .z hx_e2151 ?_
            rintro b_ r_ a2159 c2160 e; cases e
            refine Dr.pure 9 46 _ _ rfl rfl rfl rfl rfl rfl (by kernel_rfl) (PureG.of (Want.none rfl) (pe_load rfl rfl (.s .z) .pt rfl (.t (.t (.t (.t (.t (.t (.t (.t (.t (.t (.t (.t (.t (.t (.t (.t (.t (.t (.t .z))))))))))))))))))) ty32 rfl nofun rfl)) ?_
            refine Dr.pure 10 47 _ _ rfl rfl rfl rfl rfl rfl (by kernel_rfl) (PureG.of (Want.none rfl) (pe_move rfl rfl)) ?_
            refine Dr.pure 11 48 _ _ rfl rfl rfl rfl rfl rfl (by kernel_rfl) (PureG.of (Want.none rfl) (pe_move rfl rfl)) ?_
            refine Dr.sel (.dup .z inferInstance .all) ?_
            refine Dr.imp (mk_sched_Record (x := e2151)) ?_
            refine Dr.sel (.cons .z (.cons (.s .z) (.cons (.s .z) .all))) (Dr.imp (unfocus_same rfl hx_e2151) ?_)
            refine Dr.pure 12 49 _ _ rfl rfl rfl rfl rfl rfl (by kernel_rfl) (PureG.of (Want.none rfl) (pe_idx rfl rfl rfl Tryz.underlying22 ty32 h0_e2156 hl_e2156 rfl)) ?_
            refine Dr.fo_sched_Record (i := (x2052 : Int).toNat) .z hx_e2156 ?_
            rintro b_ r_ a2161 c2162 e; cases e
            refine Dr.pure 13 50 _ _ rfl rfl rfl rfl rfl rfl (by kernel_rfl) (PureG.of (Want.none rfl) (pe_load rfl rfl (.s .z) .pt rfl (.t (.t (.t (.t (.t (.t (.t (.t (.t (.t (.t (.t (.t (.t (.t (.t (.t (.t (.t .z))))))))))))))))))) ty32 rfl nofun rfl)) ?_
            refine Dr.sel (.dup .z inferInstance .all) ?_
            refine Dr.imp (mk_sched_Record (x := e2156)) ?_
            refine Dr.sel (.cons .z (.cons (.s .z) (.cons (.s .z) .all))) (Dr.imp (unfocus_same rfl hx_e2156) ?_)
            refine Dr.pure 14 51 _ _ rfl rfl rfl rfl rfl rfl (by kernel_rfl) (PureG.of (Want.none rfl) (pe_idx rfl rfl rfl Tryz.underlying22 ty32 h0_e2156 hl_e2156 rfl)) ?_
            refine Dr.fo_sched_Record (i := (x2052 : Int).toNat) .z hx_e2156 ?_
            rintro b_ r_ a2163 c2164 e; cases e
            refine Dr.step1 15 _ _ (by kernel_rfl) rfl rfl (by kernel_rfl) (Want.none rfl) (st_store rfl rfl rfl rfl (.s .z) rfl (.t (.t (.t (.t (.t (.t (.t (.t (.t (.t (.t (.t (.t (.t (.t (.t (.t (.t (.t .z))))))))))))))))))) ty32 rfl rfl) ?_ ?_
            · rintro _ _ rfl
              exact (Again.anc (by kernel_rfl) (Again.anc (by kernel_rfl) (Again.anc (by kernel_rfl) (Again.anc (by kernel_rfl) (Again.anc (by kernel_rfl) (Again.anc (by kernel_rfl) (Again.anc (by kernel_rfl) (Again.anc (by kernel_rfl) (Again.anc (by kernel_rfl) (Again.anc (by kernel_rfl) (Again.new rfl (PureG.of (Want.none rfl) (pe_int rfl rfl rfl bi_sub)) (Again.new rfl (PureG.of (Want.none rfl) (pe_move rfl rfl)) (Again.new rfl (PureG.of (Want.none rfl) (pe_move rfl rfl)) (Again.anc (by kernel_rfl) (Again.anc (by kernel_rfl) Again.nil)))))))))))))))
            rintro _ _ rfl
            refine Dr.sel (.dup (.s (.s (.s (.s .z)))) inferInstance .all) ?_
            refine Dr.imp (mk_sched_Record (x := e2151)) ?_
            refine Dr.sel (.cons .z (.cons .z (.cons (.s .z) .all))) (Dr.imp (unfocus rfl) ?_)
            refine Dr.refr (fr' := [(51, .pointer (some ⟨b2152, r2153 + (x2052 : Int).toNat * 19, none⟩)), (50, .agg ⟨[.int .i64 e2156.Client, .int .i64 e2156.Index, .int .i64 e2156.Op.Kind, .string (S e2156.Op.Path), .int .i64 e2156.Op.Off, .int .i64 e2156.Op.N, .int .i64 e2156.Op.ID, .string (S e2156.Op.Image), .int .i64 e2156.Result.Err, .int .i64 e2156.Result.Kind, .int .i64 e2156.Result.Size, .int .i64 e2156.Result.Where, .int .i64 e2156.Result.ID, .string (S e2156.Result.Text), .slice a2161 e2156.Result.Names.length c2162, .bool e2156.Result.End, .int .i64 e2156.Call, .int .i64 e2156.Mark, .int .i64 e2156.Return]⟩), (49, .pointer (some ⟨b2152, r2153 + (x2052 : Int).toNat * 19, none⟩)), (48, .int .i64 x2052), (47, .slice (some ⟨b2152, r2153, none⟩) ((x2051.set (x2052 : Int).toNat e2151).length) c3), (46, .agg ⟨[.int .i64 e2151.Client, .int .i64 e2151.Index, .int .i64 e2151.Op.Kind, .string (S e2151.Op.Path), .int .i64 e2151.Op.Off, .int .i64 e2151.Op.N, .int .i64 e2151.Op.ID, .string (S e2151.Op.Image), .int .i64 e2151.Result.Err, .int .i64 e2151.Result.Kind, .int .i64 e2151.Result.Size, .int .i64 e2151.Result.Where, .int .i64 e2151.Result.ID, .string (S e2151.Result.Text), .slice a2159 e2151.Result.Names.length c2160, .bool e2151.Result.End, .int .i64 e2151.Call, .int .i64 e2151.Mark, .int .i64 e2151.Return]⟩), (45, .pointer (some ⟨b2152, r2153 + (IntKind.i64.wrap (x2052 - 1) : Int).toNat * 19, none⟩)), (44, .int .i64 (IntKind.i64.wrap (x2052 - 1))), (43, .int .i64 x2052), (42, .slice (some ⟨b2152, r2153, none⟩) ((x2051.set (x2052 : Int).toNat e2151).length) c3), (41, .int .i64 (IntKind.i64.wrap (x2052 - 1))), (40, .int .i64 x2052), (39, .slice (some ⟨b2152, r2153, none⟩) ((x2051.set (x2052 : Int).toNat e2151).length) c3), (38, .int .i64 x2052), (37, .slice (some ⟨b2152, r2153, none⟩) ((x2051.set (x2052 : Int).toNat e2151).length) c3), (0, .slice (some ⟨b2152, r2153, none⟩) ((x2051.set (x2052 : Int).toNat e2151).length) c3), (1, .int .i64 p4), (2, .int .i64 p5), (3, .func (.func 19) ⟨[]⟩ ⟨[]⟩), (8, .int .i64 x1788), (9, .int .i64 x2052), (34, .bool x2150)]) (by first | (simp only [List.length_set]; done) | (simp only [List.length_set]; rfl)) ?_
            obtain ⟨e2165, h_e2165, hm⟩ := bindE hm
            obtain ⟨h0_e2165, hl_e2165, hx_e2165⟩ := ixE h_e2165
            refine Dr.pure 16 52 _ _ rfl rfl rfl rfl rfl rfl (by kernel_rfl) (PureG.of (Want.none rfl) (pe_idx rfl rfl rfl Tryz.underlying22 ty32 h0_e2165 hl_e2165 rfl)) ?_
            refine Dr.fo_sched_Record (i := (IntKind.i64.wrap (x2052 - 1) : Int).toNat) .z hx_e2165 ?_
            rintro b_ r_ a2166 c2167 e; cases e
            refine Dr.step1 17 _ _ (by kernel_rfl) rfl rfl (by kernel_rfl) (Want.none rfl) (st_store rfl rfl rfl rfl (.s .z) rfl (.t (.t (.t (.t (.t (.t (.t (.t (.t (.t (.t (.t (.t (.t (.t (.t (.t (.t (.t .z))))))))))))))))))) ty32 rfl rfl) ?_ ?_
            · rintro _ _ rfl
              exact (Again.anc (by kernel_rfl) (Again.anc (by kernel_rfl) (Again.anc (by kernel_rfl) (Again.anc (by kernel_rfl) (Again.anc (by kernel_rfl) (Again.anc (by kernel_rfl) (Again.anc (by kernel_rfl) (Again.anc (by kernel_rfl) (Again.anc (by kernel_rfl) (Again.anc (by kernel_rfl) (Again.anc (by kernel_rfl) (Again.anc (by kernel_rfl) (Again.anc (by kernel_rfl) (Again.anc (by kernel_rfl) (Again.anc (by kernel_rfl) (Again.anc (by kernel_rfl) Again.nil))))))))))))))))
            rintro _ _ rfl
            refine Dr.done (by kernel_rfl) ?_
            refine To.keep (Keep.cons 0 rfl (Keep.cons 1 rfl (Keep.cons 2 rfl (Keep.cons 3 rfl (Keep.cons 8 rfl (Keep.cons 9 rfl Keep.nil)))))) ?_
            refine To.sel (.cons .z (.drop (.cons .z (.drop (.cons .z (.drop (.drop (.drop .all)))))))) ?_
            refine To.bn ?_
            refine To.nx ?_
            refine To.region (l := [0, 1, 2]) rfl ?_
            refine To.pure rfl (Want.none rfl) rfl rfl (pe_move rfl rfl) ?_
            refine To.pure rfl (Want.none rfl) rfl rfl (pe_int rfl rfl rfl bi_sub) ?_
            refine To.pure rfl (Want.none rfl) rfl rfl (pe_assign rfl rfl) ?_
            refine To.done ?_
            refine To.keep (Keep.cons 9 rfl (Keep.cons 0 rfl (Keep.cons 1 rfl (Keep.cons 2 rfl (Keep.cons 3 rfl (Keep.cons 8 rfl Keep.nil)))))) ?_
            refine To.sel (.dup (.s (.s .z)) inferInstance .all) ?_
            refine To.imp (mk_sched_Record (x := e2156)) ?_
            refine To.sel (.cons .z (.cons .z (.cons .z .all))) (To.imp (unfocus rfl) ?_)
            refine To.refr (fr' := [(9, .int .i64 (IntKind.i64.wrap (x2052 - 1))), (0, .slice (some ⟨b2152, r2153, none⟩) (((x2051.set (x2052 : Int).toNat e2151).set (IntKind.i64.wrap (x2052 - 1) : Int).toNat e2156).length) c3), (1, .int .i64 p4), (2, .int .i64 p5), (3, .func (.func 19) ⟨[]⟩ ⟨[]⟩), (8, .int .i64 x1788)]) (by first | (simp only [List.length_set]; done) | (simp only [List.length_set]; rfl)) ?_
            exact fun a w ha hw => ⟨((x2051.set (x2052 : Int).toNat e2151).set (IntKind.i64.wrap (x2052 - 1) : Int).toNat e2156), IntKind.i64.wrap (x2052 - 1), hm, ha.keep (Keep.cons 0 rfl (Keep.cons 1 rfl (Keep.cons 2 rfl (Keep.cons 3 rfl (Keep.cons 8 rfl (Keep.cons 9 rfl Keep.nil)))))), (Sel.imp (.cons .z (.drop .all))) w hw⟩
          · replace hm := ifF hc hm
            refine To.exit ?_
            refine To.tx ?_
            refine To.tx ?_
            refine To.bx ?_
            refine To.bn ?_
            refine To.nx ?_
            refine To.region (l := [0, 1, 2]) rfl ?_
            refine To.pure rfl (Want.none rfl) rfl rfl (pe_move rfl rfl) ?_
            refine To.pure rfl (Want.none rfl) rfl rfl (pe_int rfl rfl rfl bi_add) ?_
            refine To.pure rfl (Want.none rfl) rfl rfl (pe_assign rfl rfl) ?_
            refine To.done ?_
            refine To.keep (Keep.cons 8 rfl (Keep.cons 0 rfl (Keep.cons 1 rfl (Keep.cons 2 rfl (Keep.cons 3 rfl Keep.nil))))) ?_
            exact fun a w ha hw => ⟨x2051, IntKind.i64.wrap (x1788 + 1), hm, ha.keep (Keep.cons 0 rfl (Keep.cons 1 rfl (Keep.cons 2 rfl (Keep.cons 3 rfl (Keep.cons 8 rfl Keep.nil))))), (Sel.imp (.cons .z .all)) w hw⟩
        · skip
          refine To.bool (decide (x2052 > p4)) (fun hc => ?_) (fun hc => ?_)
          · replace hm := ifT hc hm; have hd2168 := hc
            obtain ⟨e2169, h_e2169, hm⟩ := bindE hm
            obtain ⟨h0_e2169, hl_e2169, hx_e2169⟩ := ixE h_e2169
            refine To.ex ( Ex.own_some .z hx_e2169) fun q e => ?_
            obtain ⟨b2170, r2171⟩ := q; cases e
            refine To.fo_sched_Record (i := (x2052 : Int).toNat) .z hx_e2169 ?_
            rintro b_ r_ a2172 c2173 e; cases e
            refine To.sel (.dup .z inferInstance .all) ?_
            refine To.imp (mk_sched_Record (x := e2169)) ?_
            refine To.sel (.cons .z (.cons (.s .z) (.cons (.s .z) .all))) (To.imp (unfocus_same rfl hx_e2169) ?_)
            obtain ⟨e2174, h_e2174, hm⟩ := bindE hm
            obtain ⟨h0_e2174, hl_e2174, hx_e2174⟩ := ixE h_e2174
            refine To.fo_sched_Record (i := (IntKind.i64.wrap (x2052 - 1) : Int).toNat) .z hx_e2174 ?_
            rintro b_ r_ a2175 c2176 e; cases e
            refine To.draws [0, 0, 3, 7, 15, 15, 15, 111, 239, 15, 15, 1039, 3599, 7695, 16383, 32767, 65535] mixed (by kernel_rfl) (by kernel_rfl) ?_
            refine Dr.pure 0 18 _ _ rfl rfl rfl rfl rfl rfl (by kernel_rfl) (PureG.of (Want.none rfl) (pe_move rfl rfl)) ?_
            refine Dr.pure 1 19 _ _ rfl rfl rfl rfl rfl rfl (by kernel_rfl) (PureG.of (Want.none rfl) (pe_move rfl rfl)) ?_
            refine Dr.pure 2 20 _ _ rfl rfl rfl rfl rfl rfl (by kernel_rfl) (PureG.of (Want.none rfl) (pe_int rfl rfl rfl bi_gtr)) ?_
            refine Dr.pure 3 21 _ _ rfl rfl rfl rfl rfl rfl (by kernel_rfl) (PureG.of (Want.none rfl) (pe_move rfl rfl)) ?_
            refine Dr.pure 4 22 _ _ rfl rfl rfl rfl rfl rfl (by kernel_rfl) (PureG.of (Want.of rfl rfl rfl rfl rfl (by rw [hd2168]; rfl)) (pe_move rfl rfl)) ?_
            refine Dr.pure 5 23 _ _ rfl rfl rfl rfl rfl rfl (by kernel_rfl) (PureG.of (Want.of rfl rfl rfl rfl rfl (by rw [hd2168]; rfl)) (pe_move rfl rfl)) ?_
            refine Dr.pure 6 24 _ _ rfl rfl rfl rfl rfl rfl (by kernel_rfl) (PureG.of (Want.of rfl rfl rfl rfl rfl (by rw [hd2168]; rfl)) (pe_move rfl rfl)) ?_
            refine Dr.sel (.dup .z inferInstance .all) ?_
            refine Dr.imp (mk_sched_Record (x := e2174)) ?_
            refine Dr.sel (.cons .z (.cons (.s .z) (.cons (.s .z) .all))) (Dr.imp (unfocus_same rfl hx_e2174) ?_)
            refine Dr.pure 7 25 _ _ rfl rfl rfl rfl rfl rfl (by kernel_rfl) (PureG.of (Want.of rfl rfl rfl rfl rfl (by rw [hd2168]; rfl)) (pe_idx rfl rfl rfl Tryz.underlying22 ty32 h0_e2169 hl_e2169 rfl)) ?_
            refine Dr.fo_sched_Record (i := (x2052 : Int).toNat) .z hx_e2169 ?_
            rintro b_ r_ a2177 c2178 e; cases e
            refine Dr.pure 8 26 _ _ rfl rfl rfl rfl rfl rfl (by kernel_rfl) (PureG.of (Want.of rfl rfl rfl rfl rfl (by rw [hd2168]; rfl)) (pe_load rfl rfl (.s .z) .pt rfl (.t (.t (.t (.t (.t (.t (.t (.t (.t (.t (.t (.t (.t (.t (.t (.t (.t (.t (.t .z))))))))))))))))))) ty32 rfl nofun rfl)) ?_
            refine Dr.pure 9 27 _ _ rfl rfl rfl rfl rfl rfl (by kernel_rfl) (PureG.of (Want.of rfl rfl rfl rfl rfl (by rw [hd2168]; rfl)) (pe_move rfl rfl)) ?_
            refine Dr.pure 10 28 _ _ rfl rfl rfl rfl rfl rfl (by kernel_rfl) (PureG.of (Want.of rfl rfl rfl rfl rfl (by rw [hd2168]; rfl)) (pe_move rfl rfl)) ?_
            refine Dr.pure 11 29 _ _ rfl rfl rfl rfl rfl rfl (by kernel_rfl) (PureG.of (Want.of rfl rfl rfl rfl rfl (by rw [hd2168]; rfl)) (pe_int rfl rfl rfl bi_sub)) ?_
            refine Dr.sel (.dup .z inferInstance .all) ?_
            refine Dr.imp (mk_sched_Record (x := e2169)) ?_
            refine Dr.sel (.cons .z (.cons (.s .z) (.cons (.s .z) .all))) (Dr.imp (unfocus_same rfl hx_e2169) ?_)
            refine Dr.pure 12 30 _ _ rfl rfl rfl rfl rfl rfl (by kernel_rfl) (PureG.of (Want.of rfl rfl rfl rfl rfl (by rw [hd2168]; rfl)) (pe_idx rfl rfl rfl Tryz.underlying22 ty32 h0_e2174 hl_e2174 rfl)) ?_
            refine Dr.fo_sched_Record (i := (IntKind.i64.wrap (x2052 - 1) : Int).toNat) .z hx_e2174 ?_
            rintro b_ r_ a2179 c2180 e; cases e
            refine Dr.pure 13 31 _ _ rfl rfl rfl rfl rfl rfl (by kernel_rfl) (PureG.of (Want.of rfl rfl rfl rfl rfl (by rw [hd2168]; rfl)) (pe_load rfl rfl (.s .z) .pt rfl (.t (.t (.t (.t (.t (.t (.t (.t (.t (.t (.t (.t (.t (.t (.t (.t (.t (.t (.t .z))))))))))))))))))) ty32 rfl nofun rfl)) ?_
            refine Dr.sel (.dup .z inferInstance .all) ?_
            refine Dr.imp (mk_sched_Record (x := e2174)) ?_
            refine Dr.sel (.cons .z (.cons (.s .z) (.cons (.s .z) .all))) (Dr.imp (unfocus_same rfl hx_e2174) ?_)
            obtain ⟨y2181, h_y2181, hm⟩ := bindE hm
            refine Dr.step1 14 _ _ (by kernel_rfl) rfl rfl (by kernel_rfl) (Want.of rfl rfl rfl rfl rfl (by rw [hd2168]; rfl)) (st_callv (fs := []) (us := [.agg ⟨[.int .i64 e2169.Client, .int .i64 e2169.Index, .int .i64 e2169.Op.Kind, .string (S e2169.Op.Path), .int .i64 e2169.Op.Off, .int .i64 e2169.Op.N, .int .i64 e2169.Op.ID, .string (S e2169.Op.Image), .int .i64 e2169.Result.Err, .int .i64 e2169.Result.Kind, .int .i64 e2169.Result.Size, .int .i64 e2169.Result.Where, .int .i64 e2169.Result.ID, .string (S e2169.Result.Text), .slice a2177 e2169.Result.Names.length c2178, .bool e2169.Result.End, .int .i64 e2169.Call, .int .i64 e2169.Mark, .int .i64 e2169.Return]⟩, .agg ⟨[.int .i64 e2174.Client, .int .i64 e2174.Index, .int .i64 e2174.Op.Kind, .string (S e2174.Op.Path), .int .i64 e2174.Op.Off, .int .i64 e2174.Op.N, .int .i64 e2174.Op.ID, .string (S e2174.Op.Image), .int .i64 e2174.Result.Err, .int .i64 e2174.Result.Kind, .int .i64 e2174.Result.Size, .int .i64 e2174.Result.Where, .int .i64 e2174.Result.ID, .string (S e2174.Result.Text), .slice a2179 e2174.Result.Names.length c2180, .bool e2174.Result.End, .int .i64 e2174.Call, .int .i64 e2174.Mark, .int .i64 e2174.Return]⟩]) (cs := []) (tale_Order_1.tri k2118 h_y2181 a2177 c2178 a2179 c2180) rfl rfl fun19 (.dup (.s (.s .z)) inferInstance (.dup (.s .z) inferInstance .all)) rfl) ?_ ?_
            · rintro _ _ ⟨_, ⟨rfl, rfl⟩, rfl⟩
              exact (Again.anc (by kernel_rfl) (Again.anc (by kernel_rfl) (Again.anc (by kernel_rfl) (Again.anc (by kernel_rfl) (Again.anc (by kernel_rfl) (Again.anc (by kernel_rfl) (Again.anc (by kernel_rfl) (Again.anc (by kernel_rfl) (Again.anc (by kernel_rfl) (Again.anc (by kernel_rfl) (Again.anc (by kernel_rfl) (Again.anc (by kernel_rfl) (Again.anc (by kernel_rfl) (Again.anc (by kernel_rfl) Again.nil))))))))))))))
            rintro _ _ ⟨_, ⟨rfl, rfl⟩, rfl⟩
            refine Dr.app0 ?_
            refine Dr.pure 15 33 _ _ rfl rfl rfl rfl rfl rfl (by kernel_rfl) (PureG.of (Want.of rfl rfl rfl rfl rfl (by rw [hd2168]; rfl)) (pe_int rfl rfl rfl bi_lss)) ?_
            refine Dr.pure 16 34 _ _ rfl rfl rfl rfl rfl rfl (by kernel_rfl) (PureG.of (Want.none rfl) (pe_pick rfl rfl (by rw [hd2168]; rfl))) ?_
            refine Dr.done (by kernel_rfl) ?_
            refine To.keep (Keep.cons 34 rfl (Keep.cons 0 rfl (Keep.cons 1 rfl (Keep.cons 2 rfl (Keep.cons 3 rfl (Keep.cons 8 rfl (Keep.cons 9 rfl Keep.nil))))))) ?_
            refine To.sel (.cons .z (.drop (.drop (.drop (.drop .all))))) ?_
            exact fun a w ha hw => ⟨decide (y2181 < 0), hm, ha.keep (Keep.cons 0 rfl (Keep.cons 1 rfl (Keep.cons 2 rfl (Keep.cons 3 rfl (Keep.cons 8 rfl (Keep.cons 9 rfl (Keep.cons 34 rfl Keep.nil))))))), (Sel.imp (.cons .z .all)) w hw⟩
          · replace hm := ifF hc hm; have hd2182 := hc
            refine To.draws [0, 0, 3, 7, 15, 15, 15, 111, 239, 15, 15, 1039, 3599, 7695, 16383, 32767, 65535] mixed (by kernel_rfl) (by kernel_rfl) ?_
            refine Dr.pure 0 18 _ _ rfl rfl rfl rfl rfl rfl (by kernel_rfl) (PureG.of (Want.none rfl) (pe_move rfl rfl)) ?_
            refine Dr.pure 1 19 _ _ rfl rfl rfl rfl rfl rfl (by kernel_rfl) (PureG.of (Want.none rfl) (pe_move rfl rfl)) ?_
            refine Dr.pure 2 20 _ _ rfl rfl rfl rfl rfl rfl (by kernel_rfl) (PureG.of (Want.none rfl) (pe_int rfl rfl rfl bi_gtr)) ?_
            refine Dr.pure 3 21 _ _ rfl rfl rfl rfl rfl rfl (by kernel_rfl) (PureG.of (Want.none rfl) (pe_move rfl rfl)) ?_
            refine Dr.pure 4 22 _ _ rfl rfl rfl rfl rfl rfl (by kernel_rfl) (PureG.skip (Want.of rfl rfl rfl rfl rfl (by rw [hd2182]; rfl))) ?_
            refine Dr.pure 5 23 _ _ rfl rfl rfl rfl rfl rfl (by kernel_rfl) (PureG.skip (Want.of rfl rfl rfl rfl rfl (by rw [hd2182]; rfl))) ?_
            refine Dr.pure 6 24 _ _ rfl rfl rfl rfl rfl rfl (by kernel_rfl) (PureG.skip (Want.of rfl rfl rfl rfl rfl (by rw [hd2182]; rfl))) ?_
            refine Dr.pure 7 25 _ _ rfl rfl rfl rfl rfl rfl (by kernel_rfl) (PureG.skip (Want.of rfl rfl rfl rfl rfl (by rw [hd2182]; rfl))) ?_
            refine Dr.pure 8 26 _ _ rfl rfl rfl rfl rfl rfl (by kernel_rfl) (PureG.skip (Want.of rfl rfl rfl rfl rfl (by rw [hd2182]; rfl))) ?_
            refine Dr.pure 9 27 _ _ rfl rfl rfl rfl rfl rfl (by kernel_rfl) (PureG.skip (Want.of rfl rfl rfl rfl rfl (by rw [hd2182]; rfl))) ?_
            refine Dr.pure 10 28 _ _ rfl rfl rfl rfl rfl rfl (by kernel_rfl) (PureG.skip (Want.of rfl rfl rfl rfl rfl (by rw [hd2182]; rfl))) ?_
            refine Dr.pure 11 29 _ _ rfl rfl rfl rfl rfl rfl (by kernel_rfl) (PureG.skip (Want.of rfl rfl rfl rfl rfl (by rw [hd2182]; rfl))) ?_
            refine Dr.pure 12 30 _ _ rfl rfl rfl rfl rfl rfl (by kernel_rfl) (PureG.skip (Want.of rfl rfl rfl rfl rfl (by rw [hd2182]; rfl))) ?_
            refine Dr.pure 13 31 _ _ rfl rfl rfl rfl rfl rfl (by kernel_rfl) (PureG.skip (Want.of rfl rfl rfl rfl rfl (by rw [hd2182]; rfl))) ?_
            refine Dr.pure 14 32 _ _ rfl rfl rfl rfl rfl rfl (by kernel_rfl) (PureG.skip (Want.of rfl rfl rfl rfl rfl (by rw [hd2182]; rfl))) ?_
            refine Dr.pure 15 33 _ _ rfl rfl rfl rfl rfl rfl (by kernel_rfl) (PureG.skip (Want.of rfl rfl rfl rfl rfl (by rw [hd2182]; rfl))) ?_
            refine Dr.pure 16 34 _ _ rfl rfl rfl rfl rfl rfl (by kernel_rfl) (PureG.of (Want.none rfl) (pe_pick rfl rfl (by rw [hd2182]; rfl))) ?_
            refine Dr.done (by kernel_rfl) ?_
            refine To.keep (Keep.cons 34 rfl (Keep.cons 0 rfl (Keep.cons 1 rfl (Keep.cons 2 rfl (Keep.cons 3 rfl (Keep.cons 8 rfl (Keep.cons 9 rfl Keep.nil))))))) ?_
            exact fun a w ha hw => ⟨false, hm, ha.keep (Keep.cons 0 rfl (Keep.cons 1 rfl (Keep.cons 2 rfl (Keep.cons 3 rfl (Keep.cons 8 rfl (Keep.cons 9 rfl (Keep.cons 34 rfl Keep.nil))))))), (Sel.imp (.cons .z .all)) w hw⟩
      · skip
        exact fun a w ha hw => ⟨x1787, x1788, hm, ha.keep (Keep.cons 0 rfl (Keep.cons 1 rfl (Keep.cons 2 rfl (Keep.cons 3 rfl (Keep.cons 8 rfl (Keep.cons 9 rfl Keep.nil)))))), (Sel.imp (.cons .z .all)) w hw⟩
    · replace hm := ifF hc hm
      refine To.exit ?_
      refine To.tx ?_
      refine To.tx ?_
      refine To.bx ?_
      cases hm
      exact To.back0 rfl .nil rfl ⟨rfl, rfl⟩ (.cons .z .all)
  · skip
    exact fun a w ha hw => ⟨p1, IntKind.i64.wrap (p4 + 1), hm, ha.keep (Keep.cons 0 rfl (Keep.cons 1 rfl (Keep.cons 2 rfl (Keep.cons 3 rfl (Keep.cons 8 rfl Keep.nil))))), (Sel.imp (.cons .z .all)) w hw⟩
end Go.Proofs.M

set_option linter.unusedVariables false
set_option maxRecDepth 10000
namespace Go.Proofs.M
open Go Go.WG
/-- slices.stableCmpFunc[socage/sched.Record] -/
def slices_stableCmpFunc_sched_Record.l3 (x1093 : Int) (p4 : Int) (rec1098 : Int → Option (List T_sched_Record)) : Nat → Option (List T_sched_Record)
  | 0 => none
  | k1099 + 1 => (if (decide ((IntKind.i64.wrap (2 * x1093)) ≤ p4)) = true then none else (if (decide ((IntKind.i64.wrap (0 + x1093)) < p4)) = true then none else (rec1098 (IntKind.i64.wrap (x1093 * 2)))))
def slices_stableCmpFunc_sched_Record.l2 (p4 : Int) (y1089 : (List T_sched_Record)) : Nat → Int → Option (List T_sched_Record)
  | 0, _ => none
  | k1097 + 1, x1093 => (if (decide (x1093 < p4)) = true then (slices_stableCmpFunc_sched_Record.l3 x1093 p4 (slices_stableCmpFunc_sched_Record.l2 p4 y1089 k1097) k1097) else (some y1089))
def slices_stableCmpFunc_sched_Record.l1 (p4 : Int) : Nat → (List T_sched_Record) → Int → Int → Option (List T_sched_Record)
  | 0, _, _, _ => none
  | k1085 + 1, x1065, x1066, x1067 => (if (decide (x1067 ≤ p4)) = true then ((slices_insertionSortCmpFunc_sched_Record.f k1085 x1065 x1066 x1067).bind fun y1087 => lim (y1087.length = x1065.length) (((slices_stableCmpFunc_sched_Record.l1 p4 k1085) y1087 x1067 (IntKind.i64.wrap (x1067 + 20))))) else ((slices_insertionSortCmpFunc_sched_Record.f k1085 x1065 x1066 p4).bind fun y1089 => lim (y1089.length = x1065.length) ((slices_stableCmpFunc_sched_Record.l2 p4 y1089 k1085 20))))
def slices_stableCmpFunc_sched_Record.f (k : Nat) (p1 : List T_sched_Record) (p4 : Int) : Option (List T_sched_Record) := (slices_stableCmpFunc_sched_Record.l1 p4 k p1 0 20)
theorem slices_stableCmpFunc_sched_Record.tri (k : Nat) {r : (List T_sched_Record)} {p1 : List T_sched_Record} {p4 : Int} (hm : slices_stableCmpFunc_sched_Record.f k p1 p4 = some r) (a2 : Option Addr) (c3 : Nat) :
    Tri Tryz.prog 21 [.slice a2 p1.length c3, .int .i64 p4, .func (.func 19) ⟨[]⟩ ⟨[]⟩] [own k_sched_Record a2 c3 p1] (fun v H' => v = .tuple ⟨[]⟩ ∧ H' = [own k_sched_Record a2 c3 r]) := by
  refine Tri.intro1 Tryz.func21 rfl rfl rfl (fun F => ?_)
  unfold slices_stableCmpFunc_sched_Record.f at hm
  refine To.seq ?_
  refine To.region (l := [0]) rfl ?_
  refine To.pure rfl (Want.none rfl) rfl rfl (pe_assign rfl rfl) ?_
  refine To.done ?_
  refine To.keep (Keep.cons 6 rfl (Keep.cons 0 rfl (Keep.cons 1 rfl (Keep.cons 2 rfl Keep.nil)))) ?_
  refine To.nx ?_
  refine To.seq ?_
  refine To.region (l := [0, 1, 2]) rfl ?_
  refine To.pure rfl (Want.none rfl) rfl rfl (pe_move rfl rfl) ?_
  refine To.pure rfl (Want.none rfl) rfl rfl (pe_assign rfl rfl) ?_
  refine To.pure rfl (Want.none rfl) rfl rfl (pe_assign rfl rfl) ?_
  refine To.done ?_
  refine To.keep (Keep.cons 8 rfl (Keep.cons 7 rfl (Keep.cons 6 rfl (Keep.cons 0 rfl (Keep.cons 1 rfl (Keep.cons 2 rfl Keep.nil)))))) ?_
  refine To.nx ?_
  refine To.seq ?_
  refine To.block ?_
  refine To.loop (fun kk a w => ∃ (x1065 : List T_sched_Record), ∃ (x1066 : Int), ∃ (x1067 : Int), slices_stableCmpFunc_sched_Record.l1 p4 kk x1065 x1066 x1067 = some r ∧ Knows 63 a [(0, .slice a2 x1065.length c3), (1, .int .i64 p4), (2, .func (.func 19) ⟨[]⟩ ⟨[]⟩), (6, .int .i64 20), (7, .int .i64 x1066), (8, .int .i64 x1067)] ∧ Holds w (own k_sched_Record a2 c3 x1065 :: F)) ?_ ?_ k ?_
  · rintro a w ⟨_, _, _, hm, _, _⟩; rw [slices_stableCmpFunc_sched_Record.l1] at hm; cases hm
  · rintro k1085 a w ⟨x1065, x1066, x1067, hm, ha, hw⟩
    refine To.at ha hw ?_
    clear ha hw a w
    rw [slices_stableCmpFunc_sched_Record.l1] at hm
    refine To.seq ?_
    refine To.seq ?_
    refine To.region (l := [0, 1, 2]) rfl ?_
    refine To.pure rfl (Want.none rfl) rfl rfl (pe_move rfl rfl) ?_
    refine To.pure rfl (Want.none rfl) rfl rfl (pe_move rfl rfl) ?_
    refine To.pure rfl (Want.none rfl) rfl rfl (pe_int rfl rfl rfl bi_leq) ?_
    refine To.done ?_
    refine To.keep (Keep.cons 13 rfl (Keep.cons 0 rfl (Keep.cons 1 rfl (Keep.cons 2 rfl (Keep.cons 6 rfl (Keep.cons 7 rfl (Keep.cons 8 rfl Keep.nil))))))) ?_
    refine To.nx ?_
    refine To.cond rfl (fun hc => ?_) (fun hc => ?_)
    · replace hm := ifT hc hm
      refine To.skip ?_
      refine To.nx ?_
      refine To.block ?_
      refine To.seq ?_
      refine To.region (l := [0, 1, 2, 3, 4]) rfl ?_
      refine To.pure rfl (Want.none rfl) rfl rfl (pe_move rfl rfl) ?_
      refine To.pure rfl (Want.none rfl) rfl rfl (pe_move rfl rfl) ?_
      refine To.pure rfl (Want.none rfl) rfl rfl (pe_move rfl rfl) ?_
      refine To.pure rfl (Want.none rfl) rfl rfl (pe_move rfl rfl) ?_
      obtain ⟨y1087, h_y1087, hm⟩ := bindE hm
      refine To.step rfl (Want.none rfl) rfl rfl (st_call (slices_insertionSortCmpFunc_sched_Record.tri k1085 h_y1087 a2 c3) rfl rfl fun23 (.cons .z .all)) ?_
      rintro _ _ ⟨_, ⟨rfl, rfl⟩, rfl⟩
      refine To.app1 ?_
      obtain ⟨hl1088, hm⟩ := limE hm
      refine To.refr (fr' := [(18, .tuple ⟨[]⟩), (17, .func (.func 19) ⟨[]⟩ ⟨[]⟩), (16, .int .i64 x1067), (15, .int .i64 x1066), (14, .slice a2 y1087.length c3), (13, .bool (decide (x1067 ≤ p4))), (0, .slice a2 y1087.length c3), (1, .int .i64 p4), (2, .func (.func 19) ⟨[]⟩ ⟨[]⟩), (6, .int .i64 20), (7, .int .i64 x1066), (8, .int .i64 x1067)]) (by first | (simp only [hl1088]; done) | (simp only [hl1088]; rfl)) ?_
      refine To.done ?_
      refine To.keep (Keep.cons 0 rfl (Keep.cons 1 rfl (Keep.cons 2 rfl (Keep.cons 6 rfl (Keep.cons 8 rfl Keep.nil))))) ?_
      refine To.nx ?_
      refine To.seq ?_
      refine To.region (l := [0, 1]) rfl ?_
      refine To.pure rfl (Want.none rfl) rfl rfl (pe_move rfl rfl) ?_
      refine To.pure rfl (Want.none rfl) rfl rfl (pe_assign rfl rfl) ?_
      refine To.done ?_
      refine To.keep (Keep.cons 7 rfl (Keep.cons 0 rfl (Keep.cons 1 rfl (Keep.cons 2 rfl (Keep.cons 6 rfl (Keep.cons 8 rfl Keep.nil)))))) ?_
      refine To.nx ?_
      refine To.region (l := [0, 1, 2, 3]) rfl ?_
      refine To.pure rfl (Want.none rfl) rfl rfl (pe_move rfl rfl) ?_
      refine To.pure rfl (Want.none rfl) rfl rfl (pe_move rfl rfl) ?_
      refine To.pure rfl (Want.none rfl) rfl rfl (pe_int rfl rfl rfl bi_add) ?_
      refine To.pure rfl (Want.none rfl) rfl rfl (pe_assign rfl rfl) ?_
      refine To.done ?_
      refine To.keep (Keep.cons 8 rfl (Keep.cons 7 rfl (Keep.cons 0 rfl (Keep.cons 1 rfl (Keep.cons 2 rfl (Keep.cons 6 rfl Keep.nil)))))) ?_
      refine To.bn ?_
      exact fun a w ha hw => ⟨y1087, x1067, IntKind.i64.wrap (x1067 + 20), hm, ha.keep (Keep.cons 0 rfl (Keep.cons 1 rfl (Keep.cons 2 rfl (Keep.cons 6 rfl (Keep.cons 7 rfl (Keep.cons 8 rfl Keep.nil)))))), (Sel.imp (.cons .z .all)) w hw⟩
    · replace hm := ifF hc hm
      refine To.exit ?_
      refine To.tx ?_
      refine To.tx ?_
      refine To.bx ?_
      refine To.nx ?_
      refine To.seq ?_
      refine To.region (l := [0, 1, 2, 3, 4]) rfl ?_
      refine To.pure rfl (Want.none rfl) rfl rfl (pe_move rfl rfl) ?_
      refine To.pure rfl (Want.none rfl) rfl rfl (pe_move rfl rfl) ?_
      refine To.pure rfl (Want.none rfl) rfl rfl (pe_move rfl rfl) ?_
      refine To.pure rfl (Want.none rfl) rfl rfl (pe_move rfl rfl) ?_
      obtain ⟨y1089, h_y1089, hm⟩ := bindE hm
      refine To.step rfl (Want.none rfl) rfl rfl (st_call (slices_insertionSortCmpFunc_sched_Record.tri k1085 h_y1089 a2 c3) rfl rfl fun23 (.cons .z .all)) ?_
      rintro _ _ ⟨_, ⟨rfl, rfl⟩, rfl⟩
      refine To.app1 ?_
      obtain ⟨hl1090, hm⟩ := limE hm
      refine To.refr (fr' := [(27, .tuple ⟨[]⟩), (26, .func (.func 19) ⟨[]⟩ ⟨[]⟩), (25, .int .i64 p4), (24, .int .i64 x1066), (23, .slice a2 y1089.length c3), (13, .bool (decide (x1067 ≤ p4))), (0, .slice a2 y1089.length c3), (1, .int .i64 p4), (2, .func (.func 19) ⟨[]⟩ ⟨[]⟩), (6, .int .i64 20), (7, .int .i64 x1066), (8, .int .i64 x1067)]) (by first | (simp only [hl1090]; done) | (simp only [hl1090]; rfl)) ?_
      refine To.done ?_
      refine To.keep (Keep.cons 0 rfl (Keep.cons 1 rfl (Keep.cons 2 rfl (Keep.cons 6 rfl Keep.nil)))) ?_
      refine To.nx ?_
      refine To.block ?_
      refine To.loop (fun kk a w => ∃ (x1093 : Int), slices_stableCmpFunc_sched_Record.l2 p4 y1089 kk x1093 = some r ∧ Knows 63 a [(0, .slice a2 y1089.length c3), (1, .int .i64 p4), (2, .func (.func 19) ⟨[]⟩ ⟨[]⟩), (6, .int .i64 x1093)] ∧ Holds w (own k_sched_Record a2 c3 y1089 :: F)) ?_ ?_ k1085 ?_
      · rintro a w ⟨_, hm, _, _⟩; rw [slices_stableCmpFunc_sched_Record.l2] at hm; cases hm
      · rintro k1097 a w ⟨x1093, hm, ha, hw⟩
        refine To.at ha hw ?_
        clear ha hw a w
        rw [slices_stableCmpFunc_sched_Record.l2] at hm
        refine To.seq ?_
        refine To.seq ?_
        refine To.region (l := [0, 1, 2]) rfl ?_
        refine To.pure rfl (Want.none rfl) rfl rfl (pe_move rfl rfl) ?_
        refine To.pure rfl (Want.none rfl) rfl rfl (pe_move rfl rfl) ?_
        refine To.pure rfl (Want.none rfl) rfl rfl (pe_int rfl rfl rfl bi_lss) ?_
        refine To.done ?_
        refine To.keep (Keep.cons 30 rfl (Keep.cons 0 rfl (Keep.cons 1 rfl (Keep.cons 2 rfl (Keep.cons 6 rfl Keep.nil))))) ?_
        refine To.nx ?_
        refine To.cond rfl (fun hc => ?_) (fun hc => ?_)
        · replace hm := ifT hc hm
          refine To.skip ?_
          refine To.nx ?_
          refine To.block ?_
          refine To.seq ?_
          refine To.region (l := [0, 1, 2, 3]) rfl ?_
          refine To.pure rfl (Want.none rfl) rfl rfl (pe_move rfl rfl) ?_
          refine To.pure rfl (Want.none rfl) rfl rfl (pe_int rfl rfl rfl bi_mul) ?_
          refine To.pure rfl (Want.none rfl) rfl rfl (pe_assign rfl rfl) ?_
          refine To.pure rfl (Want.none rfl) rfl rfl (pe_assign rfl rfl) ?_
          refine To.done ?_
          refine To.keep (Keep.cons 8 rfl (Keep.cons 7 rfl (Keep.cons 0 rfl (Keep.cons 1 rfl (Keep.cons 2 rfl (Keep.cons 6 rfl Keep.nil)))))) ?_
          refine To.nx ?_
          refine To.seq ?_
          refine To.block ?_
          refine To.loop (fun kk a w => slices_stableCmpFunc_sched_Record.l3 x1093 p4 (slices_stableCmpFunc_sched_Record.l2 p4 y1089 k1097) kk = some r ∧ Knows 63 a [(0, .slice a2 y1089.length c3), (1, .int .i64 p4), (2, .func (.func 19) ⟨[]⟩ ⟨[]⟩), (6, .int .i64 x1093), (7, .int .i64 0), (8, .int .i64 (IntKind.i64.wrap (2 * x1093)))] ∧ Holds w (own k_sched_Record a2 c3 y1089 :: F)) ?_ ?_ k1097 ?_
          · rintro a w ⟨hm, _, _⟩; rw [slices_stableCmpFunc_sched_Record.l3] at hm; cases hm
          · rintro k1099 a w ⟨hm, ha, hw⟩
            refine To.at ha hw ?_
            clear ha hw a w
            rw [slices_stableCmpFunc_sched_Record.l3] at hm
            refine To.seq ?_
            refine To.seq ?_
            refine To.region (l := [0, 1, 2]) rfl ?_
            refine To.pure rfl (Want.none rfl) rfl rfl (pe_move rfl rfl) ?_
            refine To.pure rfl (Want.none rfl) rfl rfl (pe_move rfl rfl) ?_
            refine To.pure rfl (Want.none rfl) rfl rfl (pe_int rfl rfl rfl bi_leq) ?_
            refine To.done ?_
            refine To.keep (Keep.cons 35 rfl (Keep.cons 0 rfl (Keep.cons 1 rfl (Keep.cons 2 rfl (Keep.cons 6 rfl (Keep.cons 7 rfl (Keep.cons 8 rfl Keep.nil))))))) ?_
            refine To.nx ?_
            refine To.cond rfl (fun hc => ?_) (fun hc => ?_)
            · replace hm := ifT hc hm
              refine To.skip ?_
              refine To.nx ?_
              refine To.block ?_
              refine To.seq ?_
              refine To.region (l := [0, 1, 2, 3, 4, 5, 6, 7]) rfl ?_
              refine To.pure rfl (Want.none rfl) rfl rfl (pe_move rfl rfl) ?_
              refine To.pure rfl (Want.none rfl) rfl rfl (pe_move rfl rfl) ?_
              refine To.pure rfl (Want.none rfl) rfl rfl (pe_move rfl rfl) ?_
              refine To.pure rfl (Want.none rfl) rfl rfl (pe_move rfl rfl) ?_
              refine To.pure rfl (Want.none rfl) rfl rfl (pe_int rfl rfl rfl bi_add) ?_
              refine To.pure rfl (Want.none rfl) rfl rfl (pe_move rfl rfl) ?_
              refine To.pure rfl (Want.none rfl) rfl rfl (pe_move rfl rfl) ?_
              cases hm
            · replace hm := ifF hc hm
              refine To.exit ?_
              refine To.tx ?_
              refine To.tx ?_
              refine To.bx ?_
              refine To.nx ?_
              refine To.seq ?_
              refine To.seq ?_
              refine To.region (l := [0, 1, 2, 3]) rfl ?_
              refine To.pure rfl (Want.none rfl) rfl rfl (pe_move rfl rfl) ?_
              refine To.pure rfl (Want.none rfl) rfl rfl (pe_move rfl rfl) ?_
              refine To.pure rfl (Want.none rfl) rfl rfl (pe_int rfl rfl rfl bi_add) ?_
              refine To.pure rfl (Want.none rfl) rfl rfl (pe_assign rfl rfl) ?_
              refine To.done ?_
              refine To.keep (Keep.cons 9 rfl (Keep.cons 0 rfl (Keep.cons 1 rfl (Keep.cons 2 rfl (Keep.cons 6 rfl (Keep.cons 7 rfl Keep.nil)))))) ?_
              refine To.nx ?_
              refine To.seq ?_
              refine To.region (l := [0, 1, 2]) rfl ?_
              refine To.pure rfl (Want.none rfl) rfl rfl (pe_move rfl rfl) ?_
              refine To.pure rfl (Want.none rfl) rfl rfl (pe_move rfl rfl) ?_
              refine To.pure rfl (Want.none rfl) rfl rfl (pe_int rfl rfl rfl bi_lss) ?_
              refine To.done ?_
              refine To.keep (Keep.cons 54 rfl (Keep.cons 9 rfl (Keep.cons 0 rfl (Keep.cons 1 rfl (Keep.cons 2 rfl (Keep.cons 6 rfl (Keep.cons 7 rfl Keep.nil))))))) ?_
              refine To.nx ?_
              refine To.cond rfl (fun hc => ?_) (fun hc => ?_)
              · replace hm := ifT hc hm
                refine To.region (l := [0, 1, 2, 3, 4, 5]) rfl ?_
                refine To.pure rfl (Want.none rfl) rfl rfl (pe_move rfl rfl) ?_
                refine To.pure rfl (Want.none rfl) rfl rfl (pe_move rfl rfl) ?_
                refine To.pure rfl (Want.none rfl) rfl rfl (pe_move rfl rfl) ?_
                refine To.pure rfl (Want.none rfl) rfl rfl (pe_move rfl rfl) ?_
                refine To.pure rfl (Want.none rfl) rfl rfl (pe_move rfl rfl) ?_
                cases hm
              · replace hm := ifF hc hm
                refine To.skip ?_
                refine To.nx ?_
                refine To.region (l := [0, 1, 2]) rfl ?_
                refine To.pure rfl (Want.none rfl) rfl rfl (pe_move rfl rfl) ?_
                refine To.pure rfl (Want.none rfl) rfl rfl (pe_int rfl rfl rfl bi_mul) ?_
                refine To.pure rfl (Want.none rfl) rfl rfl (pe_assign rfl rfl) ?_
                refine To.done ?_
                refine To.keep (Keep.cons 6 rfl (Keep.cons 0 rfl (Keep.cons 1 rfl (Keep.cons 2 rfl Keep.nil)))) ?_
                refine To.bn ?_
                exact fun a w ha hw => ⟨IntKind.i64.wrap (x1093 * 2), hm, ha.keep (Keep.cons 0 rfl (Keep.cons 1 rfl (Keep.cons 2 rfl (Keep.cons 6 rfl Keep.nil)))), (Sel.imp (.cons .z .all)) w hw⟩
          · skip
            exact fun a w ha hw => ⟨hm, ha.keep (Keep.cons 0 rfl (Keep.cons 1 rfl (Keep.cons 2 rfl (Keep.cons 6 rfl (Keep.cons 7 rfl (Keep.cons 8 rfl Keep.nil)))))), (Sel.imp (.cons .z .all)) w hw⟩
        · replace hm := ifF hc hm
          refine To.exit ?_
          refine To.tx ?_
          refine To.tx ?_
          refine To.bx ?_
          cases hm
          exact To.back0 rfl .nil rfl ⟨rfl, rfl⟩ (.cons .z .all)
      · skip
        exact fun a w ha hw => ⟨20, hm, ha.keep (Keep.cons 0 rfl (Keep.cons 1 rfl (Keep.cons 2 rfl (Keep.cons 6 rfl Keep.nil)))), (Sel.imp (.cons .z .all)) w hw⟩
  · skip
    exact fun a w ha hw => ⟨p1, 0, 20, hm, ha.keep (Keep.cons 0 rfl (Keep.cons 1 rfl (Keep.cons 2 rfl (Keep.cons 6 rfl (Keep.cons 7 rfl (Keep.cons 8 rfl Keep.nil)))))), (Sel.imp (.cons .z .all)) w hw⟩
end Go.Proofs.M

set_option linter.unusedVariables false
set_option maxRecDepth 10000
namespace Go.Proofs.M
open Go Go.WG
/-- slices.SortStableFunc[[]socage/sched.Record,socage/sched.Record] -/
def slices_SortStableFunc_Record.f (k : Nat) (p1 : List T_sched_Record) : Option (List T_sched_Record) := ((slices_stableCmpFunc_sched_Record.f k p1 (p1.length : Int)).bind fun y1003 => lim (y1003.length = p1.length) ((some y1003)))
theorem slices_SortStableFunc_Record.tri (k : Nat) {r : (List T_sched_Record)} {p1 : List T_sched_Record} (hm : slices_SortStableFunc_Record.f k p1 = some r) (a2 : Option Addr) (c3 : Nat) :
    Tri Tryz.prog 18 [.slice a2 p1.length c3, .func (.func 19) ⟨[]⟩ ⟨[]⟩] [own k_sched_Record a2 c3 p1] (fun v H' => v = .tuple ⟨[]⟩ ∧ H' = [own k_sched_Record a2 c3 r]) := by
  refine Tri.intro1 Tryz.func18 rfl rfl rfl (fun F => ?_)
  unfold slices_SortStableFunc_Record.f at hm
  refine To.region (l := [0, 1, 2, 3, 4]) rfl ?_
  refine To.pure rfl (Want.none rfl) rfl rfl (pe_move rfl rfl) ?_
  refine To.pure rfl (Want.none rfl) rfl rfl (pe_move rfl rfl) ?_
  refine To.pure rfl (Want.none rfl) rfl rfl (pe_len rfl rfl Tryz.underlying22) ?_
  refine To.pure rfl (Want.none rfl) rfl rfl (pe_move rfl rfl) ?_
  obtain ⟨y1003, h_y1003, hm⟩ := bindE hm
  refine To.step rfl (Want.none rfl) rfl rfl (st_call (slices_stableCmpFunc_sched_Record.tri k h_y1003 a2 c3) rfl rfl fun21 (.cons .z .all)) ?_
  rintro _ _ ⟨_, ⟨rfl, rfl⟩, rfl⟩
  refine To.app1 ?_
  obtain ⟨hl1004, hm⟩ := limE hm
  refine To.refr (fr' := [(8, .tuple ⟨[]⟩), (7, .func (.func 19) ⟨[]⟩ ⟨[]⟩), (6, .int .i64 (p1.length : Int)), (5, .slice a2 y1003.length c3), (4, .slice a2 y1003.length c3), (0, .slice a2 y1003.length c3), (1, .func (.func 19) ⟨[]⟩ ⟨[]⟩)]) (by first | (simp only [hl1004]; done) | (simp only [hl1004]; rfl)) ?_
  refine To.done ?_
  refine To.keep Keep.nil ?_
  cases hm
  exact To.back0 rfl .nil rfl ⟨rfl, rfl⟩ (.cons .z .all)
end Go.Proofs.M

set_option linter.unusedVariables false
set_option maxRecDepth 10000
namespace Go.Proofs.M
open Go Go.WG
/-- socage/tale.Order -/
def tale_Order.f (k : Nat) (p1 : List T_sched_Record) : Option (List T_sched_Record) := ((slices_Clone_Record.f k p1).bind fun y1006 => ((slices_SortStableFunc_Record.f k y1006).bind fun y1009 => lim (y1009.length = y1006.length) ((some y1009))))
theorem tale_Order.tri (k : Nat) {r : (List T_sched_Record)} {p1 : List T_sched_Record} (hm : tale_Order.f k p1 = some r) (a2 : Option Addr) (c3 : Nat) :
    Tri Tryz.prog 13 [.slice a2 p1.length c3] [imm k_sched_Record a2 c3 p1] (fun v H' => ∃ (az2 : Option Addr), ∃ (cz3 : Nat), v = .slice az2 r.length cz3 ∧ H' = [own k_sched_Record az2 cz3 r]) := by
  refine Tri.intro1 Tryz.func13 rfl rfl rfl (fun F => ?_)
  unfold tale_Order.f at hm
  refine To.seq ?_
  refine To.region (l := [0]) rfl ?_
  refine To.pure rfl (Want.none rfl) rfl rfl (pe_assign rfl rfl) ?_
  refine To.done ?_
  refine To.keep (Keep.cons 0 rfl Keep.nil) ?_
  refine To.nx ?_
  refine To.seq ?_
  refine To.region (l := [0, 1, 2]) rfl ?_
  refine To.pure rfl (Want.none rfl) rfl rfl (pe_move rfl rfl) ?_
  obtain ⟨y1006, h_y1006, hm⟩ := bindE hm
  refine To.step rfl (Want.none rfl) rfl rfl (st_call (slices_Clone_Record.tri k h_y1006 a2 c3) rfl rfl fun17 (.dup .z inferInstance .all)) ?_
  rintro _ _ ⟨_, ⟨a1007, c1008, rfl, rfl⟩, rfl⟩
  refine To.app1 ?_
  refine To.pure rfl (Want.none rfl) rfl rfl (pe_assign rfl rfl) ?_
  refine To.done ?_
  refine To.keep (Keep.cons 3 rfl Keep.nil) ?_
  refine To.sel (.cons .z (.drop .all)) ?_
  refine To.nx ?_
  refine To.seq ?_
  refine To.region (l := [0, 1]) rfl ?_
  refine To.pure rfl (Want.none rfl) rfl rfl (pe_move rfl rfl) ?_
  obtain ⟨y1009, h_y1009, hm⟩ := bindE hm
  refine To.step rfl (Want.none rfl) rfl rfl (st_call (slices_SortStableFunc_Record.tri k h_y1009 a1007 c1008) rfl rfl fun18 (.cons .z .all)) ?_
  rintro _ _ ⟨_, ⟨rfl, rfl⟩, rfl⟩
  refine To.app1 ?_
  obtain ⟨hl1010, hm⟩ := limE hm
  refine To.refr (fr' := [(7, .tuple ⟨[]⟩), (6, .slice a1007 y1009.length c1008), (3, .slice a1007 y1009.length c1008)]) (by first | (simp only [hl1010]; done) | (simp only [hl1010]; rfl)) ?_
  refine To.done ?_
  refine To.keep (Keep.cons 3 rfl Keep.nil) ?_
  refine To.nx ?_
  refine To.seq ?_
  refine To.region (l := [0, 1]) rfl ?_
  refine To.pure rfl (Want.none rfl) rfl rfl (pe_move rfl rfl) ?_
  refine To.pure rfl (Want.none rfl) rfl rfl (pe_assign rfl rfl) ?_
  refine To.done ?_
  refine To.keep (Keep.cons 2 rfl Keep.nil) ?_
  refine To.nx ?_
  refine To.ret ?_
  cases hm
  exact To.back rfl (.tmp rfl .nil) rfl ⟨a1007, c1008, rfl, rfl⟩ (.cons .z .all)
end Go.Proofs.M

set_option linter.unusedVariables false
set_option maxRecDepth 10000
namespace Go.Proofs.M
open Go Go.WG
/-- socage/cursor.New -/
def cursor_New.f (k : Nat) (p1 : Int) : Option T_cursor_Table := (some (⟨(if 1024 < (if 1 > p1 then 1 else p1) then 1024 else (if 1 > p1 then 1 else p1)), 0, ([] : List (Int × T_cursor_Cursor))⟩ : T_cursor_Table))
theorem cursor_New.tri (k : Nat) {r : T_cursor_Table} {p1 : Int} (hm : cursor_New.f k p1 = some r) :
    Tri Tryz.prog 22 [.int .i64 p1] [] (fun v H' => ∃ (bz1 : Nat), v = .pointer (some ⟨bz1, 0, none⟩) ∧ H' = [ob_cursor_Table bz1 0 r]) := by
  refine Tri.intro0 Tryz.func22 rfl rfl rfl (fun F => ?_)
  unfold cursor_New.f at hm
  refine To.seq ?_
  refine To.region (l := [0]) rfl ?_
  refine To.pure rfl (Want.none rfl) rfl rfl (pe_assign rfl rfl) ?_
  refine To.done ?_
  refine To.keep (Keep.cons 0 rfl Keep.nil) ?_
  refine To.nx ?_
  refine To.seq ?_
  refine To.region (l := [0, 1, 2, 3, 4, 5, 6]) rfl ?_
  refine To.pure rfl (Want.none rfl) rfl rfl (pe_move rfl rfl) ?_
  refine To.pure rfl (Want.none rfl) rfl rfl (pe_max rfl rfl rfl) ?_
  refine To.pure rfl (Want.none rfl) rfl rfl (pe_min rfl rfl rfl) ?_
  refine To.step rfl (Want.none rfl) rfl rfl (st_mkmap (ek := mkv3) (ev := mkv90) rfl) ?_
  rintro _ _ ⟨b1003, rfl, rfl⟩
  refine To.pure rfl (Want.none rfl) rfl rfl (pe_build (vs := [(0, .int .i64 (if 1024 < (if 1 > p1 then 1 else p1) then 1024 else (if 1 > p1 then 1 else p1))), (2, .map (some b1003))]) (.cons rfl rfl rfl (.t .z) rfl (.cons rfl rfl rfl (.d (.d (.t .z))) rfl .nil)) rfl zero63 stc63 rfl) ?_
  refine To.step rfl (Want.none rfl) rfl rfl (st_box rfl rfl rfl) ?_
  rintro _ _ ⟨b1004, rfl, rfl⟩
  refine To.pure rfl (Want.none rfl) rfl rfl (pe_assign rfl rfl) ?_
  refine To.done ?_
  refine To.keep (Keep.cons 2 rfl Keep.nil) ?_
  refine To.nx ?_
  refine To.ret ?_
  refine To.sel (.cons .z (.cons .z .all)) (To.imp (cl_cursor_Table (⟨(if 1024 < (if 1 > p1 then 1 else p1) then 1024 else (if 1 > p1 then 1 else p1)), 0, ([] : List (Int × T_cursor_Cursor))⟩ : T_cursor_Table)) ?_)
  cases hm
  exact To.back rfl (.tmp rfl .nil) rfl ⟨b1004, rfl, rfl⟩ (.cons .z .all)
end Go.Proofs.M

set_option linter.unusedVariables false
set_option maxRecDepth 10000
namespace Go.Proofs.M
open Go Go.WG
/-- socage/spec.New -/
def spec_New.f (k : Nat) (p1 : T_stack_Stack) (p4 : Int) : Option T_spec_State := ((cursor_New.f k p4).bind fun y1006 => (some (⟨(⟨p1.lF, p1.nextF⟩ : T_stack_Stack), 0, y1006⟩ : T_spec_State)))
theorem spec_New.tri (k : Nat) {r : T_spec_State} {p1 : T_stack_Stack} {p4 : Int} (hm : spec_New.f k p1 p4 = some r) (a2 : Option Addr) (c3 : Nat) :
    Tri Tryz.prog 20 [.agg ⟨[.slice a2 p1.lF.length c3, .int .i64 p1.nextF]⟩, .int .i64 p4] [imm k_stack_mount a2 c3 p1.lF] (fun v H' => ∃ (bz1 : Nat), v = .pointer (some ⟨bz1, 0, none⟩) ∧ H' = [ob_spec_State bz1 0 r]) := by
  refine Tri.intro1 Tryz.func20 rfl rfl rfl (fun F => ?_)
  unfold spec_New.f at hm
  refine To.seq ?_
  refine To.region (l := [0, 1]) rfl ?_
  refine To.step rfl (Want.none rfl) rfl rfl (st_box rfl rfl rfl) ?_
  rintro _ _ ⟨b1005, rfl, rfl⟩
  refine To.pure rfl (Want.none rfl) rfl rfl (pe_assign rfl rfl) ?_
  refine To.done ?_
  refine To.keep (Keep.cons 2 rfl (Keep.cons 1 rfl Keep.nil)) ?_
  refine To.nx ?_
  refine To.seq ?_
  refine To.draws [0, 0, 2, 7, 15, 31] mixed (by kernel_rfl) (by kernel_rfl) ?_
  refine Dr.pure 0 5 _ _ rfl rfl rfl rfl rfl rfl (by kernel_rfl) (PureG.of (Want.none rfl) (pe_load rfl rfl .z .pt rfl (.t (.t .z)) ty42 rfl nofun rfl)) ?_
  refine Dr.pure 1 6 _ _ rfl rfl rfl rfl rfl rfl (by kernel_rfl) (PureG.of (Want.none rfl) (pe_move rfl rfl)) ?_
  obtain ⟨y1006, h_y1006, hm⟩ := bindE hm
  refine Dr.step1 2 _ _ (by kernel_rfl) rfl rfl (by kernel_rfl) (Want.none rfl) (st_call (cursor_New.tri k h_y1006) rfl rfl fun22 .all) ?_ ?_
  · rintro _ _ ⟨_, ⟨b1007, rfl, rfl⟩, rfl⟩
    exact (Again.anc (by kernel_rfl) (Again.new rfl (PureG.of (Want.none rfl) (pe_load rfl rfl (.s .z) .pt rfl (.t (.t .z)) ty42 rfl nofun rfl)) Again.nil))
  rintro _ _ ⟨_, ⟨b1007, rfl, rfl⟩, rfl⟩
  refine Dr.app1 ?_
  refine Dr.pure 3 8 _ _ rfl rfl rfl rfl rfl rfl (by kernel_rfl) (PureG.of (Want.none rfl) (pe_build (vs := [(0, .agg ⟨[.slice a2 p1.lF.length c3, .int .i64 p1.nextF]⟩), (1, .int .i64 0), (2, .pointer (some ⟨b1007, 0, none⟩))]) (.cons rfl rfl rfl (.t (.t .z)) rfl (.cons rfl rfl rfl (.d (.d (.t .z))) rfl (.cons rfl rfl rfl (.d (.d (.d (.t .z)))) rfl .nil))) rfl zero58 stc58 rfl)) ?_
  refine Dr.step1 4 _ _ (by kernel_rfl) rfl rfl (by kernel_rfl) (Want.none rfl) (st_box rfl rfl rfl) ?_ ?_
  · rintro _ _ ⟨b1008, rfl, rfl⟩
    exact (Again.anc (by kernel_rfl) (Again.anc (by kernel_rfl) (Again.anc (by kernel_rfl) Again.nil)))
  rintro _ _ ⟨b1008, rfl, rfl⟩
  refine Dr.step1 5 _ _ (by kernel_rfl) rfl rfl (by kernel_rfl) (Want.none rfl) ((pe_assign rfl rfl).step) ?_ ?_
  · rintro _ _ ⟨rfl, rfl⟩
    exact (Again.anc (by kernel_rfl) (Again.anc (by kernel_rfl) (Again.anc (by kernel_rfl) Again.nil)))
  rintro _ _ ⟨rfl, rfl⟩
  refine Dr.done (by kernel_rfl) ?_
  refine To.keep (Keep.cons 4 rfl Keep.nil) ?_
  refine To.sel (.cons .z (.cons .z (.drop .all))) ?_
  refine To.nx ?_
  refine To.ret ?_
  refine To.sel (.cons .z (.dup (.s .z) inferInstance (.cons .z .all))) (To.imp (cl_spec_State (⟨(⟨p1.lF, p1.nextF⟩ : T_stack_Stack), 0, y1006⟩ : T_spec_State)) ?_)
  cases hm
  exact To.back rfl (.tmp rfl .nil) rfl ⟨b1008, rfl, rfl⟩ (.cons .z (.drop .all))
end Go.Proofs.M

set_option linter.unusedVariables false
set_option maxRecDepth 10000
namespace Go.Proofs.M
open Go Go.WG
/-- (*socage/cursor.Table).Get -/
def cursor_Table_Get.f (k : Nat) (p2 : T_cursor_Table) (p3 : Int) : Option (T_cursor_Cursor × Int) := (if (!(mhas p2.openF p3)) = true then (some ((⟨0, [], 0⟩ : T_cursor_Cursor), 9)) else (some ((⟨(mgetD p2.openF p3 (⟨0, [], 0⟩ : T_cursor_Cursor)).Epoch, (mgetD p2.openF p3 (⟨0, [], 0⟩ : T_cursor_Cursor)).Dir, (mgetD p2.openF p3 (⟨0, [], 0⟩ : T_cursor_Cursor)).At⟩ : T_cursor_Cursor), 0)))
theorem cursor_Table_Get.tri (k : Nat) {r : T_cursor_Cursor × Int} {p2 : T_cursor_Table} {p3 : Int} (hm : cursor_Table_Get.f k p2 p3 = some r) (b1 : Nat) :
    Tri Tryz.prog 59 [.pointer (some ⟨b1, 0, none⟩), .int .i64 p3] [ob_cursor_Table b1 0 p2] (fun v H' => v = .tuple ⟨[.agg ⟨[.int .i64 r.1.Epoch, .string (S r.1.Dir), .int .i64 r.1.At]⟩, .int .i64 r.2]⟩ ∧ H' = [ob_cursor_Table b1 0 p2]) := by
  refine Tri.intro1 Tryz.func59 rfl rfl rfl (fun F => ?_)
  unfold cursor_Table_Get.f at hm
  refine To.seq ?_
  refine To.region (l := [0, 1]) rfl ?_
  refine To.step rfl (Want.none rfl) rfl rfl (st_alloc rfl zero90) ?_
  rintro _ _ ⟨b1004, rfl, rfl⟩
  refine To.pure rfl (Want.none rfl) rfl rfl (pe_assign rfl rfl) ?_
  refine To.done ?_
  refine To.keep (Keep.cons 4 rfl (Keep.cons 0 rfl (Keep.cons 1 rfl Keep.nil))) ?_
  refine To.nx ?_
  refine To.seq ?_
  refine To.region (l := [0, 1, 2, 3, 4, 5, 6, 7, 8, 9, 10, 11]) rfl ?_
  refine To.pure rfl (Want.none rfl) rfl rfl (pe_move rfl rfl) ?_
  refine To.pure rfl (Want.none rfl) rfl rfl (pe_nil rfl rfl) ?_
  refine To.pure rfl (Want.none rfl) rfl rfl (pe_fld rfl rfl fld63_2 ty61 rfl rfl) ?_
  refine To.uf_cursor_Table (.s .z) ?_
  intro b1005
  refine To.pure rfl (Want.none rfl) rfl rfl (pe_load rfl rfl .z .pt rfl (.d (.d (.t .z))) ty61 rfl (fun _ => rfl) rfl) ?_
  refine To.pure rfl (Want.none rfl) rfl rfl (pe_move rfl rfl) ?_
  refine To.pure rfl (Want.none rfl) rfl rfl (pe_lookup (k := p3) (z := (⟨0, [], 0⟩ : T_cursor_Cursor)) (v := .agg ⟨[.int .i64 ((mgetD p2.openF p3 (⟨0, [], 0⟩ : T_cursor_Cursor)).Epoch), .string (S ((mgetD p2.openF p3 (⟨0, [], 0⟩ : T_cursor_Cursor)).Dir)), .int .i64 ((mgetD p2.openF p3 (⟨0, [], 0⟩ : T_cursor_Cursor)).At)]⟩) (.s .z) mapt61 key3 zval90 rfl rfl rfl rfl) ?_
  refine To.pure rfl (Want.none rfl) rfl rfl (pe_move rfl rfl) ?_
  refine To.pure rfl (Want.none rfl) rfl rfl (pe_extract rfl rfl rfl) ?_
  refine To.pure rfl (Want.none rfl) rfl rfl (pe_extract rfl rfl rfl) ?_
  refine To.step rfl (Want.none rfl) rfl rfl (st_alloc rfl zero90) ?_
  rintro _ _ ⟨b1006, rfl, rfl⟩
  refine To.step0 rfl (Want.none rfl) rfl (st_store rfl rfl rfl rfl .z rfl (.t (.t (.t .z))) ty90 rfl rfl) ?_
  rintro _ _ rfl
  refine To.pure rfl (Want.none rfl) rfl rfl (pe_assign rfl rfl) ?_
  refine To.done ?_
  refine To.keep (Keep.cons 7 rfl (Keep.cons 6 rfl (Keep.cons 4 rfl Keep.nil))) ?_
  refine To.nx ?_
  refine To.seq ?_
  refine To.seq ?_
  refine To.region (l := [0, 1]) rfl ?_
  refine To.pure rfl (Want.none rfl) rfl rfl (pe_move rfl rfl) ?_
  refine To.pure rfl (Want.none rfl) rfl rfl (pe_not rfl rfl) ?_
  refine To.done ?_
  refine To.keep (Keep.cons 18 rfl (Keep.cons 6 rfl (Keep.cons 4 rfl Keep.nil))) ?_
  refine To.nx ?_
  refine To.cond rfl (fun hc => ?_) (fun hc => ?_)
  · replace hm := ifT hc hm
    refine To.seq ?_
    refine To.region (l := [0, 1, 2]) rfl ?_
    refine To.pure rfl (Want.none rfl) rfl rfl (pe_build (vs := []) .nil rfl zero90 stc90 rfl) ?_
    refine To.step0 rfl (Want.none rfl) rfl (st_store rfl rfl rfl rfl (.s (.s (.s .z))) rfl (.t (.t (.t .z))) ty90 rfl rfl) ?_
    rintro _ _ rfl
    refine To.pure rfl (Want.none rfl) rfl rfl (pe_assign rfl rfl) ?_
    refine To.done ?_
    refine To.keep (Keep.cons 5 rfl (Keep.cons 4 rfl Keep.nil)) ?_
    refine To.sel (.cons .z (.drop .all)) ?_
    refine To.nx ?_
    refine To.ret ?_
    refine To.tr ?_
    refine To.sel (.cons (.s .z) (.cons (.s .z) .all)) (To.imp (cl_cursor_Table p2) ?_)
    cases hm
    exact To.back rfl (.cell rfl (.s .z) .pt rfl (.t (.t (.t .z))) ty90 rfl nofun rfl (.tmp rfl .nil)) rfl ⟨rfl, rfl⟩ (.cons .z (.drop .all))
  · replace hm := ifF hc hm
    refine To.skip ?_
    refine To.nx ?_
    refine To.seq ?_
    refine To.region (l := [0, 1, 2]) rfl ?_
    refine To.pure rfl (Want.none rfl) rfl rfl (pe_load rfl rfl .z .pt rfl (.t (.t (.t .z))) ty90 rfl nofun rfl) ?_
    refine To.step0 rfl (Want.none rfl) rfl (st_store rfl rfl rfl rfl (.s (.s (.s .z))) rfl (.t (.t (.t .z))) ty90 rfl rfl) ?_
    rintro _ _ rfl
    refine To.pure rfl (Want.none rfl) rfl rfl (pe_assign rfl rfl) ?_
    refine To.done ?_
    refine To.keep (Keep.cons 5 rfl (Keep.cons 4 rfl Keep.nil)) ?_
    refine To.sel (.cons .z (.drop .all)) ?_
    refine To.nx ?_
    refine To.ret ?_
    refine To.sel (.cons (.s .z) (.cons (.s .z) .all)) (To.imp (cl_cursor_Table p2) ?_)
    cases hm
    exact To.back rfl (.cell rfl (.s .z) .pt rfl (.t (.t (.t .z))) ty90 rfl nofun rfl (.tmp rfl .nil)) rfl ⟨rfl, rfl⟩ (.cons .z (.drop .all))
end Go.Proofs.M

set_option linter.unusedVariables false
set_option maxRecDepth 10000
namespace Go.Proofs.M
open Go Go.WG
/-- (*socage/cursor.Table).Close -/
def cursor_Table_Close.f (k : Nat) (p2 : T_cursor_Table) (p3 : Int) : Option (Int × T_cursor_Table) := ((cursor_Table_Get.f k p2 p3).bind fun y1004 => (if (y1004.2 != 0) = true then (some (y1004.2, p2)) else (some (0, (⟨p2.roomF, p2.nextF, (mdel p2.openF p3)⟩ : T_cursor_Table)))))
theorem cursor_Table_Close.tri (k : Nat) {r : Int × T_cursor_Table} {p2 : T_cursor_Table} {p3 : Int} (hm : cursor_Table_Close.f k p2 p3 = some r) (b1 : Nat) :
    Tri Tryz.prog 51 [.pointer (some ⟨b1, 0, none⟩), .int .i64 p3] [ob_cursor_Table b1 0 p2] (fun v H' => v = .int .i64 r.1 ∧ H' = [ob_cursor_Table b1 0 r.2]) := by
  refine Tri.intro1 Tryz.func51 rfl rfl rfl (fun F => ?_)
  unfold cursor_Table_Close.f at hm
  refine To.seq ?_
  refine To.region (l := [0]) rfl ?_
  refine To.pure rfl (Want.none rfl) rfl rfl (pe_assign rfl rfl) ?_
  refine To.done ?_
  refine To.keep (Keep.cons 0 rfl (Keep.cons 1 rfl Keep.nil)) ?_
  refine To.nx ?_
  refine To.seq ?_
  refine To.seq ?_
  refine To.region (l := [0, 1, 2, 3, 4, 5, 6, 7, 8]) rfl ?_
  refine To.pure rfl (Want.none rfl) rfl rfl (pe_move rfl rfl) ?_
  refine To.pure rfl (Want.none rfl) rfl rfl (pe_move rfl rfl) ?_
  obtain ⟨y1004, h_y1004, hm⟩ := bindE hm
  refine To.step rfl (Want.none rfl) rfl rfl (st_call (cursor_Table_Get.tri k h_y1004 b1) rfl rfl fun59 (.cons .z .all)) ?_
  rintro _ _ ⟨_, ⟨rfl, rfl⟩, rfl⟩
  refine To.app1 ?_
  refine To.pure rfl (Want.none rfl) rfl rfl (pe_move rfl rfl) ?_
  refine To.pure rfl (Want.none rfl) rfl rfl (pe_extract rfl rfl rfl) ?_
  refine To.pure rfl (Want.none rfl) rfl rfl (pe_extract rfl rfl rfl) ?_
  refine To.step rfl (Want.none rfl) rfl rfl (st_alloc rfl zero90) ?_
  rintro _ _ ⟨b1005, rfl, rfl⟩
  refine To.step0 rfl (Want.none rfl) rfl (st_store rfl rfl rfl rfl .z rfl (.t (.t (.t .z))) ty90 rfl rfl) ?_
  rintro _ _ rfl
  refine To.pure rfl (Want.none rfl) rfl rfl (pe_assign rfl rfl) ?_
  refine To.done ?_
  refine To.keep (Keep.cons 6 rfl (Keep.cons 0 rfl (Keep.cons 1 rfl Keep.nil))) ?_
  refine To.sel (.drop .all) ?_
  refine To.nx ?_
  refine To.seq ?_
  refine To.region (l := [0, 1]) rfl ?_
  refine To.pure rfl (Want.none rfl) rfl rfl (pe_move rfl rfl) ?_
  refine To.pure rfl (Want.none rfl) rfl rfl (pe_int rfl rfl rfl bi_neq) ?_
  refine To.done ?_
  refine To.keep (Keep.cons 14 rfl (Keep.cons 6 rfl (Keep.cons 0 rfl (Keep.cons 1 rfl Keep.nil)))) ?_
  refine To.nx ?_
  refine To.cond rfl (fun hc => ?_) (fun hc => ?_)
  · replace hm := ifT hc hm
    refine To.seq ?_
    refine To.region (l := [0, 1]) rfl ?_
    refine To.pure rfl (Want.none rfl) rfl rfl (pe_move rfl rfl) ?_
    refine To.pure rfl (Want.none rfl) rfl rfl (pe_assign rfl rfl) ?_
    refine To.done ?_
    refine To.keep (Keep.cons 4 rfl Keep.nil) ?_
    refine To.nx ?_
    refine To.ret ?_
    refine To.tr ?_
    cases hm
    exact To.back rfl (.tmp rfl .nil) rfl ⟨rfl, rfl⟩ (.cons .z .all)
  · replace hm := ifF hc hm
    refine To.skip ?_
    refine To.nx ?_
    refine To.seq ?_
    refine To.region (l := [0, 1, 2, 3, 4, 5]) rfl ?_
    refine To.pure rfl (Want.none rfl) rfl rfl (pe_move rfl rfl) ?_
    refine To.pure rfl (Want.none rfl) rfl rfl (pe_nil rfl rfl) ?_
    refine To.pure rfl (Want.none rfl) rfl rfl (pe_fld rfl rfl fld63_2 ty61 rfl rfl) ?_
    refine To.uf_cursor_Table .z ?_
    intro b1006
    refine To.pure rfl (Want.none rfl) rfl rfl (pe_load rfl rfl .z .pt rfl (.d (.d (.t .z))) ty61 rfl (fun _ => rfl) rfl) ?_
    refine To.pure rfl (Want.none rfl) rfl rfl (pe_move rfl rfl) ?_
    refine To.step0 rfl (Want.none rfl) rfl (st_mdel (k := p3) (.s .z) mapt61 key3 rfl rfl rfl) ?_
    rintro _ _ rfl
    refine To.done ?_
    refine To.keep Keep.nil ?_
    refine To.nx ?_
    refine To.seq ?_
    refine To.region (l := [0]) rfl ?_
    refine To.pure rfl (Want.none rfl) rfl rfl (pe_assign rfl rfl) ?_
    refine To.done ?_
    refine To.keep (Keep.cons 4 rfl Keep.nil) ?_
    refine To.nx ?_
    refine To.ret ?_
    refine To.sel (.cons (.s .z) (.cons .z .all)) (To.imp (cl_cursor_Table (⟨p2.roomF, p2.nextF, (mdel p2.openF p3)⟩ : T_cursor_Table)) ?_)
    cases hm
    exact To.back rfl (.tmp rfl .nil) rfl ⟨rfl, rfl⟩ (.cons .z .all)
end Go.Proofs.M

set_option linter.unusedVariables false
set_option maxRecDepth 10000
namespace Go.Proofs.M
open Go Go.WG
/-- (*socage/spec.State).change -/
def spec_State_change.f (k : Nat) (p2 : T_spec_State) (p3 : T_stack_Stack) (p6 : Int) (p7 : Int) : Option (T_api_Result × T_spec_State) := (if (p7 != 0) = true then (some ((⟨p7, 0, 0, 0, 0, [], [], false⟩ : T_api_Result), p2)) else (some ((⟨0, 0, 0, 0, p6, [], [], false⟩ : T_api_Result), (⟨(⟨p3.lF, p3.nextF⟩ : T_stack_Stack), IntKind.i64.wrap (p2.Epoch + 1), p2.Table⟩ : T_spec_State))))
theorem spec_State_change.tri (k : Nat) {r : T_api_Result × T_spec_State} {p2 : T_spec_State} {p3 : T_stack_Stack} {p6 : Int} {p7 : Int} (hm : spec_State_change.f k p2 p3 p6 p7 = some r) (b1 : Nat) (a4 : Option Addr) (c5 : Nat) :
    Tri Tryz.prog 66 [.pointer (some ⟨b1, 0, none⟩), .agg ⟨[.slice a4 p3.lF.length c5, .int .i64 p3.nextF]⟩, .int .i64 p6, .int .i64 p7] [ob_spec_State b1 0 p2, imm k_stack_mount a4 c5 p3.lF] (fun v H' => ∃ (az2 : Option Addr), ∃ (cz3 : Nat), v = .agg ⟨[.int .i64 r.1.Err, .int .i64 r.1.Kind, .int .i64 r.1.Size, .int .i64 r.1.Where, .int .i64 r.1.ID, .string (S r.1.Text), .slice az2 r.1.Names.length cz3, .bool r.1.End]⟩ ∧ H' = [own kStr az2 cz3 r.1.Names, ob_spec_State b1 0 r.2]) := by
  refine Tri.intro2 Tryz.func66 rfl rfl rfl (fun F => ?_)
  unfold spec_State_change.f at hm
  refine To.seq ?_
  refine To.region (l := [0, 1]) rfl ?_
  refine To.step rfl (Want.none rfl) rfl rfl (st_box rfl rfl rfl) ?_
  rintro _ _ ⟨b1006, rfl, rfl⟩
  refine To.step rfl (Want.none rfl) rfl rfl (st_alloc rfl zero26) ?_
  rintro _ _ ⟨b1007, rfl, rfl⟩
  refine To.done ?_
  refine To.keep (Keep.cons 8 rfl (Keep.cons 5 rfl (Keep.cons 0 rfl (Keep.cons 2 rfl (Keep.cons 3 rfl Keep.nil))))) ?_
  refine To.nx ?_
  refine To.seq ?_
  refine To.seq ?_
  refine To.region (l := [0, 1]) rfl ?_
  refine To.pure rfl (Want.none rfl) rfl rfl (pe_move rfl rfl) ?_
  refine To.pure rfl (Want.none rfl) rfl rfl (pe_int rfl rfl rfl bi_neq) ?_
  refine To.done ?_
  refine To.keep (Keep.cons 10 rfl (Keep.cons 8 rfl (Keep.cons 5 rfl (Keep.cons 0 rfl (Keep.cons 2 rfl (Keep.cons 3 rfl Keep.nil)))))) ?_
  refine To.nx ?_
  refine To.cond rfl (fun hc => ?_) (fun hc => ?_)
  · replace hm := ifT hc hm
    refine To.seq ?_
    refine To.region (l := [0, 1, 2]) rfl ?_
    refine To.pure rfl (Want.none rfl) rfl rfl (pe_move rfl rfl) ?_
    refine To.pure rfl (Want.none rfl) rfl rfl (pe_build (vs := [(0, .int .i64 p7)]) (.cons rfl rfl rfl (.t .z) rfl .nil) rfl zero26 stc26 rfl) ?_
    refine To.step0 rfl (Want.none rfl) rfl (st_store rfl rfl rfl rfl .z rfl (.t (.t (.t (.t (.t (.t (.t (.t .z)))))))) ty26 rfl rfl) ?_
    rintro _ _ rfl
    refine To.done ?_
    refine To.keep (Keep.cons 8 rfl Keep.nil) ?_
    refine To.sel (.cons .z (.drop (.cons .z (.drop .all)))) ?_
    refine To.nx ?_
    refine To.ret ?_
    refine To.tr ?_
    refine To.imp (Imp.own_nil (k := kStr)) ?_
    cases hm
    exact To.back rfl (.cell rfl (.s .z) .pt rfl (.t (.t (.t (.t (.t (.t (.t (.t .z)))))))) ty26 rfl nofun rfl .nil) rfl ⟨none, 0, rfl, rfl⟩ (.cons .z (.cons (.s .z) (.drop .all)))
  · replace hm := ifF hc hm
    refine To.skip ?_
    refine To.nx ?_
    refine To.seq ?_
    refine To.uf_spec_State (.s (.s .z)) ?_
    intro a1008 c1009 b1010
    refine To.draws [0, 0, 0, 0, 8, 24, 56, 120, 125, 381, 893, 2047, 4095, 8191] mixed (by kernel_rfl) (by kernel_rfl) ?_
    refine Dr.pure 0 13 _ _ rfl rfl rfl rfl rfl rfl (by kernel_rfl) (PureG.of (Want.none rfl) (pe_move rfl rfl)) ?_
    refine Dr.pure 1 14 _ _ rfl rfl rfl rfl rfl rfl (by kernel_rfl) (PureG.of (Want.none rfl) (pe_move rfl rfl)) ?_
    refine Dr.pure 2 15 _ _ rfl rfl rfl rfl rfl rfl (by kernel_rfl) (PureG.of (Want.none rfl) (pe_load rfl rfl (.s (.s (.s (.s .z)))) .pt rfl (.t (.t .z)) ty42 rfl nofun rfl)) ?_
    refine Dr.pure 3 16 _ _ rfl rfl rfl rfl rfl rfl (by kernel_rfl) (PureG.of (Want.none rfl) (pe_move rfl rfl)) ?_
    refine Dr.pure 4 17 _ _ rfl rfl rfl rfl rfl rfl (by kernel_rfl) (PureG.of (Want.none rfl) (pe_nil rfl rfl)) ?_
    refine Dr.pure 5 18 _ _ rfl rfl rfl rfl rfl rfl (by kernel_rfl) (PureG.of (Want.none rfl) (pe_fld rfl rfl fld58_1 ty3 rfl rfl)) ?_
    refine Dr.pure 6 19 _ _ rfl rfl rfl rfl rfl rfl (by kernel_rfl) (PureG.of (Want.none rfl) (pe_load rfl rfl .z .pt rfl (.d (.d (.t .z))) ty3 rfl (fun _ => rfl) rfl)) ?_
    refine Dr.pure 7 20 _ _ rfl rfl rfl rfl rfl rfl (by kernel_rfl) (PureG.of (Want.none rfl) (pe_int rfl rfl rfl bi_add)) ?_
    refine Dr.pure 8 21 _ _ rfl rfl rfl rfl rfl rfl (by kernel_rfl) (PureG.of (Want.none rfl) (pe_nil rfl rfl)) ?_
    refine Dr.pure 9 22 _ _ rfl rfl rfl rfl rfl rfl (by kernel_rfl) (PureG.of (Want.none rfl) (pe_fld rfl rfl fld58_0 ty42 rfl rfl)) ?_
    refine Dr.step1 10 _ _ (by kernel_rfl) rfl rfl (by kernel_rfl) (Want.none rfl) (st_store rfl rfl rfl rfl .z rfl (.t (.t .z)) ty42 rfl rfl) ?_ ?_
    · rintro _ _ rfl
      exact (Again.anc (by kernel_rfl) (Again.anc (by kernel_rfl) (Again.new rfl (PureG.of (Want.none rfl) (pe_int rfl rfl rfl bi_add)) (Again.anc (by kernel_rfl) (Again.anc (by kernel_rfl) (Again.anc (by kernel_rfl) (Again.anc (by kernel_rfl) (Again.anc (by kernel_rfl) (Again.new rfl (PureG.of (Want.none rfl) (pe_move rfl rfl)) (Again.anc (by kernel_rfl) Again.nil))))))))))
    rintro _ _ rfl
    refine Dr.pure 11 23 _ _ rfl rfl rfl rfl rfl rfl (by kernel_rfl) (PureG.of (Want.none rfl) (pe_nil rfl rfl)) ?_
    refine Dr.pure 12 24 _ _ rfl rfl rfl rfl rfl rfl (by kernel_rfl) (PureG.of (Want.none rfl) (pe_fld rfl rfl fld58_1 ty3 rfl rfl)) ?_
    refine Dr.step1 13 _ _ (by kernel_rfl) rfl rfl (by kernel_rfl) (Want.none rfl) (st_store rfl rfl rfl rfl .z rfl (.d (.d (.t .z))) ty3 rfl rfl) ?_ ?_
    · rintro _ _ rfl
      exact (Again.anc (by kernel_rfl) (Again.anc (by kernel_rfl) (Again.anc (by kernel_rfl) (Again.anc (by kernel_rfl) (Again.anc (by kernel_rfl) (Again.anc (by kernel_rfl) (Again.anc (by kernel_rfl) (Again.anc (by kernel_rfl) (Again.anc (by kernel_rfl) (Again.anc (by kernel_rfl) (Again.anc (by kernel_rfl) (Again.anc (by kernel_rfl) Again.nil))))))))))))
    rintro _ _ rfl
    refine Dr.done (by kernel_rfl) ?_
    refine To.keep (Keep.cons 8 rfl (Keep.cons 2 rfl Keep.nil)) ?_
    refine To.sel (.cons .z (.drop (.cons .z (.cons .z (.drop .all))))) ?_
    refine To.nx ?_
    refine To.seq ?_
    refine To.region (l := [0, 1, 2]) rfl ?_
    refine To.pure rfl (Want.none rfl) rfl rfl (pe_move rfl rfl) ?_
    refine To.pure rfl (Want.none rfl) rfl rfl (pe_build (vs := [(4, .int .i64 p6)]) (.cons rfl rfl rfl (.d (.d (.d (.d (.t .z))))) rfl .nil) rfl zero26 stc26 rfl) ?_
    refine To.step0 rfl (Want.none rfl) rfl (st_store rfl rfl rfl rfl (.s (.s .z)) rfl (.t (.t (.t (.t (.t (.t (.t (.t .z)))))))) ty26 rfl rfl) ?_
    rintro _ _ rfl
    refine To.done ?_
    refine To.keep (Keep.cons 8 rfl Keep.nil) ?_
    refine To.nx ?_
    refine To.ret ?_
    refine To.sel (.cons (.s .z) (.dup (.s (.s .z)) inferInstance (.cons (.s .z) .all))) (To.imp (cl_spec_State (⟨(⟨p3.lF, p3.nextF⟩ : T_stack_Stack), IntKind.i64.wrap (p2.Epoch + 1), p2.Table⟩ : T_spec_State)) ?_)
    refine To.imp (Imp.own_nil (k := kStr)) ?_
    cases hm
    exact To.back rfl (.cell rfl (.s (.s .z)) .pt rfl (.t (.t (.t (.t (.t (.t (.t (.t .z)))))))) ty26 rfl nofun rfl .nil) rfl ⟨none, 0, rfl, rfl⟩ (.cons .z (.cons .z (.drop (.drop .all))))
end Go.Proofs.M

set_option linter.unusedVariables false
set_option maxRecDepth 10000
namespace Go.Proofs.M
open Go Go.WG
/-- slices.Clone[[]socage/stack.mount,socage/stack.mount] -/
def slices_Clone_mount.f (k : Nat) (p1 : List T_stack_mount) : Option (List T_stack_mount) := (lim (([] : List T_stack_mount).length + p1.length ≤ BIG) ((some (([] : List T_stack_mount) ++ p1))))
theorem slices_Clone_mount.tri (k : Nat) {r : (List T_stack_mount)} {p1 : List T_stack_mount} (hm : slices_Clone_mount.f k p1 = some r) (a2 : Option Addr) (c3 : Nat) :
    Tri Tryz.prog 93 [.slice a2 p1.length c3] [imm k_stack_mount a2 c3 p1] (fun v H' => ∃ (az2 : Option Addr), ∃ (cz3 : Nat), v = .slice az2 r.length cz3 ∧ H' = [own k_stack_mount az2 cz3 r]) := by
  refine Tri.intro1 Tryz.func93 rfl rfl rfl (fun F => ?_)
  unfold slices_Clone_mount.f at hm
  refine To.seq ?_
  refine To.region (l := [0]) rfl ?_
  refine To.pure rfl (Want.none rfl) rfl rfl (pe_assign rfl rfl) ?_
  refine To.done ?_
  refine To.keep (Keep.cons 0 rfl Keep.nil) ?_
  refine To.nx ?_
  refine To.seq ?_
  refine To.seq ?_
  refine To.region (l := [0, 1]) rfl ?_
  refine To.pure rfl (Want.none rfl) rfl rfl (pe_move rfl rfl) ?_
  refine To.pure rfl (Want.none rfl) rfl rfl (pe_sleql rfl rfl rfl Tryz.underlying40) ?_
  refine To.done ?_
  refine To.keep (Keep.cons 4 rfl (Keep.cons 0 rfl Keep.nil)) ?_
  refine To.nx ?_
  refine To.cond rfl (fun hc => ?_) (fun hc => ?_)
  · refine To.ex (Ex.imm_null .z hc) fun _ hn1006 => ?_
    replace hm : (some []) = some r := by rw [hn1006] at hm; exact hm
    refine To.seq ?_
    refine To.region (l := [0]) rfl ?_
    refine To.pure rfl (Want.none rfl) rfl rfl (pe_assign rfl rfl) ?_
    refine To.done ?_
    refine To.keep (Keep.cons 2 rfl Keep.nil) ?_
    refine To.sel (.drop .all) ?_
    refine To.nx ?_
    refine To.ret ?_
    refine To.tr ?_
    refine To.imp (Imp.own_nil (k := k_stack_mount)) ?_
    cases hm
    exact To.back rfl (.tmp rfl .nil) rfl ⟨none, 0, rfl, rfl⟩ (.cons .z .all)
  · refine To.skip ?_
    refine To.nx ?_
    refine To.seq ?_
    refine To.region (l := [0, 1, 2, 3]) rfl ?_
    refine To.step rfl (Want.none rfl) rfl rfl (st_row (vs := []) rfl rfl rfl rfl Tryz.underlying40 ty83 zsz40 rfl rfl) ?_
    rintro _ _ ⟨b1007, rfl, rfl⟩
    refine To.pull .z (To.imp (Imp.row (k := k_stack_mount) (xs := ([] : List T_stack_mount)) .nil rfl) ?_)
    refine To.sel .all ?_
    refine To.pure rfl (Want.none rfl) rfl rfl (pe_move rfl rfl) ?_
    obtain ⟨hl1008, hm⟩ := limE hm
    refine To.step rfl (Want.none rfl) rfl rfl (st_append (xs := ([] : List T_stack_mount)) (ys := p1) rfl rfl rfl elt40 rfl zsz40 .z (Src.imm .z) hl1008) ?_
    rintro _ _ ⟨a1009, c1010, rfl, rfl⟩
    refine To.pure rfl (Want.none rfl) rfl rfl (pe_assign rfl rfl) ?_
    refine To.done ?_
    refine To.keep (Keep.cons 2 rfl Keep.nil) ?_
    refine To.sel (.cons .z (.drop .all)) ?_
    refine To.nx ?_
    refine To.ret ?_
    cases hm
    exact To.back rfl (.tmp rfl .nil) rfl ⟨a1009, c1010, rfl, rfl⟩ (.cons .z .all)
end Go.Proofs.M

set_option linter.unusedVariables false
set_option maxRecDepth 10000
namespace Go.Proofs.M
open Go Go.WG
/-- (socage/stack.Stack).Remove$1 -/
def stack_Stack_Remove_1.f (k : Nat) (p1 : T_stack_mount) (p4 : Int) : Option (Bool × Int) := (some ((p1.idF == p4), p4))
theorem stack_Stack_Remove_1.tri (k : Nat) {r : Bool × Int} {p1 : T_stack_mount} {p4 : Int} (hm : stack_Stack_Remove_1.f k p1 p4 = some r) (a2 : Option Addr) (b3 : Nat) :
    Tri Tryz.prog 91 [.agg ⟨[.int .i64 p1.idF, .pointer a2]⟩, .pointer (some ⟨b3, 0, none⟩)] [ip k_branch_Branch a2 p1.Branch, pt b3 0 [.int .i64 p4]] (fun v H' => v = .bool r.1 ∧ H' = [pt b3 0 [.int .i64 r.2]]) := by
  refine Tri.intro2 Tryz.func91 rfl rfl rfl (fun F => ?_)
  unfold stack_Stack_Remove_1.f at hm
  refine To.seq ?_
  refine To.region (l := [0, 1]) rfl ?_
  refine To.step rfl (Want.none rfl) rfl rfl (st_box rfl rfl rfl) ?_
  rintro _ _ ⟨b1002, rfl, rfl⟩
  refine To.pure rfl (Want.none rfl) rfl rfl (pe_assign rfl rfl) ?_
  refine To.done ?_
  refine To.keep (Keep.cons 2 rfl (Keep.cons 1 rfl Keep.nil)) ?_
  refine To.nx ?_
  refine To.seq ?_
  refine To.region (l := [0, 1, 2, 3, 4]) rfl ?_
  refine To.pure rfl (Want.none rfl) rfl rfl (pe_fld rfl rfl fld83_0 ty3 rfl rfl) ?_
  refine To.pure rfl (Want.none rfl) rfl rfl (pe_load rfl rfl .z .pt rfl (.t .z) ty3 rfl (fun _ => rfl) rfl) ?_
  refine To.pure rfl (Want.none rfl) rfl rfl (pe_load rfl rfl (.s (.s .z)) .pt rfl (.t .z) ty3 rfl (fun _ => rfl) rfl) ?_
  refine To.pure rfl (Want.none rfl) rfl rfl (pe_int rfl rfl rfl bi_eql) ?_
  refine To.pure rfl (Want.none rfl) rfl rfl (pe_assign rfl rfl) ?_
  refine To.done ?_
  refine To.keep (Keep.cons 3 rfl Keep.nil) ?_
  refine To.sel (.drop (.drop .all)) ?_
  refine To.nx ?_
  refine To.ret ?_
  cases hm
  exact To.back rfl (.tmp rfl .nil) rfl ⟨rfl, rfl⟩ (.cons .z .all)
end Go.Proofs.M

set_option linter.unusedVariables false
set_option maxRecDepth 10000
namespace Go.Proofs.M
open Go Go.WG
/-- slices.IndexFunc[[]socage/stack.mount,socage/stack.mount] -/
def slices_IndexFunc_mount.l1 (p1 : List T_stack_mount) : Nat → Int → Int → Option (Int × Int)
  | 0, _, _ => none
  | k1036 + 1, x1027, x1028 => (if (decide (x1028 < (p1.length : Int))) = true then ((ix p1 x1028).bind fun e1038 => (stack_Stack_Remove_1.f k1036 e1038 x1027).bind fun y1042 => (if y1042.1 = true then (some (x1028, y1042.2)) else ((slices_IndexFunc_mount.l1 p1 k1036) y1042.2 (IntKind.i64.wrap (x1028 + 1))))) else (some ((-1), x1027)))
def slices_IndexFunc_mount.f (k : Nat) (p1 : List T_stack_mount) (p5 : Int) : Option (Int × Int) := (slices_IndexFunc_mount.l1 p1 k p5 0)
theorem slices_IndexFunc_mount.tri (k : Nat) {r : Int × Int} {p1 : List T_stack_mount} {p5 : Int} (hm : slices_IndexFunc_mount.f k p1 p5 = some r) (a2 : Option Addr) (c3 : Nat) (b4 : Nat) :
    Tri Tryz.prog 90 [.slice a2 p1.length c3, .func (.func 91) ⟨[]⟩ ⟨[.pointer (some ⟨b4, 0, none⟩)]⟩] [imm k_stack_mount a2 c3 p1, pt b4 0 [.int .i64 p5]] (fun v H' => v = .int .i64 r.1 ∧ H' = [pt b4 0 [.int .i64 r.2]]) := by
  refine Tri.intro2 Tryz.func90 rfl rfl rfl (fun F => ?_)
  unfold slices_IndexFunc_mount.f at hm
  refine To.seq ?_
  refine To.region (l := [0]) rfl ?_
  refine To.pure rfl (Want.none rfl) rfl rfl (pe_assign rfl rfl) ?_
  refine To.done ?_
  refine To.keep (Keep.cons 0 rfl (Keep.cons 1 rfl Keep.nil)) ?_
  refine To.nx ?_
  refine To.seq ?_
  refine To.seq ?_
  refine To.region (l := [0, 1, 2]) rfl ?_
  refine To.pure rfl (Want.none rfl) rfl rfl (pe_move rfl rfl) ?_
  refine To.pure rfl (Want.none rfl) rfl rfl (pe_len rfl rfl Tryz.underlying40) ?_
  refine To.pure rfl (Want.none rfl) rfl rfl (pe_move rfl rfl) ?_
  refine To.done ?_
  refine To.keep (Keep.cons 8 rfl (Keep.cons 7 rfl (Keep.cons 0 rfl (Keep.cons 1 rfl Keep.nil)))) ?_
  refine To.nx ?_
  refine To.block ?_
  refine To.loop (fun kk a w => ∃ (x1027 : Int), ∃ (x1028 : Int), slices_IndexFunc_mount.l1 p1 kk x1027 x1028 = some r ∧ Knows 19 a [(0, .slice a2 p1.length c3), (1, .func (.func 91) ⟨[]⟩ ⟨[.pointer (some ⟨b4, 0, none⟩)]⟩), (7, .int .i64 (p1.length : Int)), (8, .int .i64 x1028)] ∧ Holds w (imm k_stack_mount a2 c3 p1 :: pt b4 0 [.int .i64 x1027] :: F)) ?_ ?_ k ?_
  · rintro a w ⟨_, _, hm, _, _⟩; rw [slices_IndexFunc_mount.l1] at hm; cases hm
  · rintro k1036 a w ⟨x1027, x1028, hm, ha, hw⟩
    refine To.at ha hw ?_
    clear ha hw a w
    rw [slices_IndexFunc_mount.l1] at hm
    refine To.seq ?_
    refine To.region (l := [0]) rfl ?_
    refine To.pure rfl (Want.none rfl) rfl rfl (pe_int rfl rfl rfl bi_lss) ?_
    refine To.done ?_
    refine To.keep (Keep.cons 9 rfl (Keep.cons 0 rfl (Keep.cons 1 rfl (Keep.cons 7 rfl (Keep.cons 8 rfl Keep.nil))))) ?_
    refine To.nx ?_
    refine To.seq ?_
    refine To.cond rfl (fun hc => ?_) (fun hc => ?_)
    · replace hm := ifT hc hm
      refine To.skip ?_
      refine To.nx ?_
      refine To.seq ?_
      refine To.block ?_
      refine To.seq ?_
      refine To.region (l := [0, 1]) rfl ?_
      refine To.pure rfl (Want.none rfl) rfl rfl (pe_move rfl rfl) ?_
      refine To.pure rfl (Want.none rfl) rfl rfl (pe_assign rfl rfl) ?_
      refine To.done ?_
      refine To.keep (Keep.cons 5 rfl (Keep.cons 0 rfl (Keep.cons 1 rfl (Keep.cons 7 rfl (Keep.cons 8 rfl Keep.nil))))) ?_
      refine To.nx ?_
      refine To.seq ?_
      refine To.region (l := [0, 1, 2, 3, 4, 5]) rfl ?_
      refine To.pure rfl (Want.none rfl) rfl rfl (pe_move rfl rfl) ?_
      refine To.pure rfl (Want.none rfl) rfl rfl (pe_move rfl rfl) ?_
      refine To.pure rfl (Want.none rfl) rfl rfl (pe_move rfl rfl) ?_
      obtain ⟨e1038, h_e1038, hm⟩ := bindE hm
      obtain ⟨h0_e1038, hl_e1038, hx_e1038⟩ := ixE h_e1038
      refine To.el_stack_mount (i := (x1028 : Int).toNat) .z hx_e1038 ?_
      rintro b1040 r1041 a1039 e; cases e
      refine To.pure rfl (Want.none rfl) rfl rfl (pe_idx rfl rfl rfl Tryz.underlying40 ty83 h0_e1038 hl_e1038 rfl) ?_
      refine To.pure rfl (Want.none rfl) rfl rfl (pe_load rfl rfl (.s .z) .ro rfl (.t (.t .z)) ty83 rfl nofun rfl) ?_
      obtain ⟨y1042, h_y1042, hm⟩ := bindE hm
      refine To.step rfl (Want.none rfl) rfl rfl (st_callv (fs := []) (us := [.agg ⟨[.int .i64 e1038.idF, .pointer a1039]⟩]) (cs := [.pointer (some ⟨b4, 0, none⟩)]) (stack_Stack_Remove_1.tri k1036 h_y1042 a1039 b4) rfl rfl fun91 (.dup .z inferInstance (.cons (.s (.s (.s .z))) .all)) rfl) ?_
      rintro _ _ ⟨_, ⟨rfl, rfl⟩, rfl⟩
      refine To.app1 ?_
      refine To.done ?_
      refine To.keep (Keep.cons 16 rfl (Keep.cons 5 rfl (Keep.cons 0 rfl (Keep.cons 1 rfl (Keep.cons 7 rfl (Keep.cons 8 rfl Keep.nil)))))) ?_
      refine To.sel (.cons .z (.drop (.drop .all))) ?_
      refine To.nx ?_
      refine To.cond rfl (fun hc => ?_) (fun hc => ?_)
      · replace hm := ifT hc hm
        refine To.seq ?_
        refine To.region (l := [0, 1]) rfl ?_
        refine To.pure rfl (Want.none rfl) rfl rfl (pe_move rfl rfl) ?_
        refine To.pure rfl (Want.none rfl) rfl rfl (pe_assign rfl rfl) ?_
        refine To.done ?_
        refine To.keep (Keep.cons 4 rfl Keep.nil) ?_
        refine To.sel (.cons .z (.drop .all)) ?_
        refine To.nx ?_
        refine To.ret ?_
        refine To.br ?_
        refine To.tr ?_
        refine To.tr ?_
        refine To.br ?_
        refine To.tr ?_
        cases hm
        exact To.back rfl (.tmp rfl .nil) rfl ⟨rfl, rfl⟩ (.cons .z .all)
      · replace hm := ifF hc hm
        refine To.skip ?_
        refine To.bn ?_
        refine To.nx ?_
        refine To.region (l := [0, 1]) rfl ?_
        refine To.pure rfl (Want.none rfl) rfl rfl (pe_int rfl rfl rfl bi_add) ?_
        refine To.pure rfl (Want.none rfl) rfl rfl (pe_move rfl rfl) ?_
        refine To.done ?_
        refine To.keep (Keep.cons 8 rfl (Keep.cons 0 rfl (Keep.cons 1 rfl (Keep.cons 7 rfl Keep.nil)))) ?_
        exact fun a w ha hw => ⟨y1042.2, IntKind.i64.wrap (x1028 + 1), hm, ha.keep (Keep.cons 0 rfl (Keep.cons 1 rfl (Keep.cons 7 rfl (Keep.cons 8 rfl Keep.nil)))), (Sel.imp (.dup (.s .z) inferInstance (.cons .z (.drop .all)))) w hw⟩
    · replace hm := ifF hc hm
      refine To.exit ?_
      refine To.tx ?_
      refine To.tx ?_
      refine To.bx ?_
      refine To.nx ?_
      refine To.seq ?_
      refine To.region (l := [0]) rfl ?_
      refine To.pure rfl (Want.none rfl) rfl rfl (pe_assign rfl rfl) ?_
      refine To.done ?_
      refine To.keep (Keep.cons 4 rfl Keep.nil) ?_
      refine To.sel (.drop .all) ?_
      refine To.nx ?_
      refine To.ret ?_
      cases hm
      exact To.back rfl (.tmp rfl .nil) rfl ⟨rfl, rfl⟩ (.cons .z .all)
  · skip
    exact fun a w ha hw => ⟨p5, 0, hm, ha.keep (Keep.cons 0 rfl (Keep.cons 1 rfl (Keep.cons 7 rfl (Keep.cons 8 rfl Keep.nil)))), (Sel.imp (.dup .z inferInstance (.cons (.s .z) (.drop .all)))) w hw⟩
end Go.Proofs.M

set_option linter.unusedVariables false
set_option maxRecDepth 10000
namespace Go.Proofs.M
open Go Go.WG
/-- (socage/stack.Stack).Remove -/
def stack_Stack_Remove.f (k : Nat) (p1 : T_stack_Stack) (p4 : Int) : Option (T_stack_Stack × Int) := ((slices_IndexFunc_mount.f k p1.lF p4).bind fun y1011 => (if (decide (y1011.1 < 0)) = true then (some (p1, 2)) else ((slices_Clone_mount.f k p1.lF).bind fun y1012 => none)))
theorem stack_Stack_Remove.tri (k : Nat) {r : T_stack_Stack × Int} {p1 : T_stack_Stack} {p4 : Int} (hm : stack_Stack_Remove.f k p1 p4 = some r) (a2 : Option Addr) (c3 : Nat) :
    Tri Tryz.prog 67 [.agg ⟨[.slice a2 p1.lF.length c3, .int .i64 p1.nextF]⟩, .int .i64 p4] [imm k_stack_mount a2 c3 p1.lF] (fun v H' => ∃ (az2 : Option Addr), ∃ (cz3 : Nat), v = .tuple ⟨[.agg ⟨[.slice az2 r.1.lF.length cz3, .int .i64 r.1.nextF]⟩, .int .i64 r.2]⟩ ∧ H' = [imm k_stack_mount az2 cz3 r.1.lF]) := by
  refine Tri.intro1 Tryz.func67 rfl rfl rfl (fun F => ?_)
  unfold stack_Stack_Remove.f at hm
  refine To.seq ?_
  refine To.region (l := [0, 1, 2, 3]) rfl ?_
  refine To.step rfl (Want.none rfl) rfl rfl (st_box rfl rfl rfl) ?_
  rintro _ _ ⟨b1008, rfl, rfl⟩
  refine To.step rfl (Want.none rfl) rfl rfl (st_box rfl rfl rfl) ?_
  rintro _ _ ⟨b1009, rfl, rfl⟩
  refine To.step rfl (Want.none rfl) rfl rfl (st_alloc rfl zero42) ?_
  rintro _ _ ⟨b1010, rfl, rfl⟩
  refine To.pure rfl (Want.none rfl) rfl rfl (pe_assign rfl rfl) ?_
  refine To.done ?_
  refine To.keep (Keep.cons 4 rfl (Keep.cons 3 rfl (Keep.cons 2 rfl Keep.nil))) ?_
  refine To.nx ?_
  refine To.seq ?_
  refine To.region (l := [0, 1, 2, 3, 4]) rfl ?_
  refine To.pure rfl (Want.none rfl) rfl rfl (pe_fld rfl rfl fld42_0 ty40 rfl rfl) ?_
  refine To.pure rfl (Want.none rfl) rfl rfl (pe_load rfl rfl (.s (.s .z)) .pt rfl (.t .z) ty40 rfl (fun _ => rfl) rfl) ?_
  refine To.pure rfl (Want.none rfl) rfl rfl (pe_func (us := []) (vs := [.pointer (some ⟨b1009, 0, none⟩)]) rfl rfl rfl) ?_
  obtain ⟨y1011, h_y1011, hm⟩ := bindE hm
  refine To.step rfl (Want.none rfl) rfl rfl (st_call (slices_IndexFunc_mount.tri k h_y1011 a2 c3 b1009) rfl rfl fun90 (.dup (.s (.s (.s .z))) inferInstance (.cons (.s .z) .all))) ?_
  rintro _ _ ⟨_, ⟨rfl, rfl⟩, rfl⟩
  refine To.app1 ?_
  refine To.pure rfl (Want.none rfl) rfl rfl (pe_assign rfl rfl) ?_
  refine To.done ?_
  refine To.keep (Keep.cons 6 rfl (Keep.cons 4 rfl (Keep.cons 2 rfl Keep.nil))) ?_
  refine To.sel (.drop .all) ?_
  refine To.nx ?_
  refine To.seq ?_
  refine To.seq ?_
  refine To.region (l := [0, 1]) rfl ?_
  refine To.pure rfl (Want.none rfl) rfl rfl (pe_move rfl rfl) ?_
  refine To.pure rfl (Want.none rfl) rfl rfl (pe_int rfl rfl rfl bi_lss) ?_
  refine To.done ?_
  refine To.keep (Keep.cons 12 rfl (Keep.cons 6 rfl (Keep.cons 4 rfl (Keep.cons 2 rfl Keep.nil)))) ?_
  refine To.nx ?_
  refine To.cond rfl (fun hc => ?_) (fun hc => ?_)
  · replace hm := ifT hc hm
    refine To.seq ?_
    refine To.region (l := [0, 1, 2]) rfl ?_
    refine To.pure rfl (Want.none rfl) rfl rfl (pe_load rfl rfl (.s .z) .pt rfl (.t (.t .z)) ty42 rfl nofun rfl) ?_
    refine To.step0 rfl (Want.none rfl) rfl (st_store rfl rfl rfl rfl .z rfl (.t (.t .z)) ty42 rfl rfl) ?_
    rintro _ _ rfl
    refine To.pure rfl (Want.none rfl) rfl rfl (pe_assign rfl rfl) ?_
    refine To.done ?_
    refine To.keep (Keep.cons 5 rfl (Keep.cons 4 rfl Keep.nil)) ?_
    refine To.sel (.cons .z (.drop .all)) ?_
    refine To.nx ?_
    refine To.ret ?_
    refine To.tr ?_
    cases hm
    exact To.back rfl (.cell rfl .z .pt rfl (.t (.t .z)) ty42 rfl nofun rfl (.tmp rfl .nil)) rfl ⟨a2, c3, rfl, rfl⟩ (.dup (.s .z) inferInstance (.drop (.drop .all)))
  · replace hm := ifF hc hm
    refine To.skip ?_
    refine To.nx ?_
    refine To.seq ?_
    refine To.draws [0, 1, 3, 0, 0, 16, 63, 0, 128, 511, 1023, 2047] mixed (by kernel_rfl) (by kernel_rfl) ?_
    refine Dr.pure 0 14 _ _ rfl rfl rfl rfl rfl rfl (by kernel_rfl) (PureG.of (Want.none rfl) (pe_fld rfl rfl fld42_0 ty40 rfl rfl)) ?_
    refine Dr.pure 1 15 _ _ rfl rfl rfl rfl rfl rfl (by kernel_rfl) (PureG.of (Want.none rfl) (pe_load rfl rfl (.s .z) .pt rfl (.t .z) ty40 rfl (fun _ => rfl) rfl)) ?_
    refine Dr.pure 3 17 _ _ rfl rfl rfl rfl rfl rfl (by kernel_rfl) (PureG.of (Want.none rfl) (pe_move rfl rfl)) ?_
    refine Dr.pure 4 18 _ _ rfl rfl rfl rfl rfl rfl (by kernel_rfl) (PureG.of (Want.none rfl) (pe_move rfl rfl)) ?_
    refine Dr.pure 5 19 _ _ rfl rfl rfl rfl rfl rfl (by kernel_rfl) (PureG.of (Want.none rfl) (pe_int rfl rfl rfl bi_add)) ?_
    refine Dr.pure 7 21 _ _ rfl rfl rfl rfl rfl rfl (by kernel_rfl) (PureG.of (Want.none rfl) (pe_fld rfl rfl fld42_1 ty3 rfl rfl)) ?_
    refine Dr.pure 8 22 _ _ rfl rfl rfl rfl rfl rfl (by kernel_rfl) (PureG.of (Want.none rfl) (pe_load rfl rfl (.s .z) .pt rfl (.d (.t .z)) ty3 rfl (fun _ => rfl) rfl)) ?_
    obtain ⟨y1012, h_y1012, hm⟩ := bindE hm
    refine Dr.step1 2 _ _ (by kernel_rfl) rfl rfl (by kernel_rfl) (Want.none rfl) (st_call (slices_Clone_mount.tri k h_y1012 a2 c3) rfl rfl fun93 (.dup (.s (.s .z)) inferInstance .all)) ?_ ?_
    · rintro _ _ ⟨_, ⟨a1013, c1014, rfl, rfl⟩, rfl⟩
      exact (Again.new rfl (PureG.of (Want.none rfl) (pe_load rfl rfl (.s (.s .z)) .pt rfl (.d (.t .z)) ty3 rfl (fun _ => rfl) rfl)) (Again.new rfl (PureG.of (Want.none rfl) (pe_fld rfl rfl fld42_1 ty3 rfl rfl)) (Again.new rfl (PureG.of (Want.none rfl) (pe_int rfl rfl rfl bi_add)) (Again.new rfl (PureG.of (Want.none rfl) (pe_move rfl rfl)) (Again.new rfl (PureG.of (Want.none rfl) (pe_move rfl rfl)) (Again.anc (by kernel_rfl) (Again.anc (by kernel_rfl) Again.nil)))))))
    rintro _ _ ⟨_, ⟨a1013, c1014, rfl, rfl⟩, rfl⟩
    refine Dr.app1 ?_
    refine Dr.pull .z (Dr.imp Imp.freeze ?_)
    cases hm
end Go.Proofs.M

set_option linter.unusedVariables false
set_option maxRecDepth 10000
namespace Go.Proofs.M
open Go Go.WG
/-- (*socage/spec.State).Remove -/
def spec_State_Remove.f (k : Nat) (p2 : T_spec_State) (p3 : Int) : Option (T_api_Result × T_spec_State) := ((stack_Stack_Remove.f k p2.Stack p3).bind fun y1016 => ((spec_State_change.f k p2 y1016.1 0 y1016.2).bind fun y1020 => (some (y1020.1, y1020.2))))
theorem spec_State_Remove.tri (k : Nat) {r : T_api_Result × T_spec_State} {p2 : T_spec_State} {p3 : Int} (hm : spec_State_Remove.f k p2 p3 = some r) (b1 : Nat) :
    Tri Tryz.prog 54 [.pointer (some ⟨b1, 0, none⟩), .int .i64 p3] [ob_spec_State b1 0 p2] (fun v H' => ∃ (az2 : Option Addr), ∃ (cz3 : Nat), v = .agg ⟨[.int .i64 r.1.Err, .int .i64 r.1.Kind, .int .i64 r.1.Size, .int .i64 r.1.Where, .int .i64 r.1.ID, .string (S r.1.Text), .slice az2 r.1.Names.length cz3, .bool r.1.End]⟩ ∧ H' = [own kStr az2 cz3 r.1.Names, ob_spec_State b1 0 r.2]) := by
  refine Tri.intro1 Tryz.func54 rfl rfl rfl (fun F => ?_)
  unfold spec_State_Remove.f at hm
  refine To.seq ?_
  refine To.region (l := [0]) rfl ?_
  refine To.step rfl (Want.none rfl) rfl rfl (st_alloc rfl zero26) ?_
  rintro _ _ ⟨b1012, rfl, rfl⟩
  refine To.done ?_
  refine To.keep (Keep.cons 4 rfl (Keep.cons 0 rfl (Keep.cons 1 rfl Keep.nil))) ?_
  refine To.nx ?_
  refine To.seq ?_
  refine To.region (l := [0, 1, 2, 3, 4, 5, 6, 7, 8, 9, 10, 11]) rfl ?_
  refine To.pure rfl (Want.none rfl) rfl rfl (pe_move rfl rfl) ?_
  refine To.pure rfl (Want.none rfl) rfl rfl (pe_nil rfl rfl) ?_
  refine To.pure rfl (Want.none rfl) rfl rfl (pe_fld rfl rfl fld58_0 ty42 rfl rfl) ?_
  refine To.uf_spec_State (.s .z) ?_
  intro a1013 c1014 b1015
  refine To.pure rfl (Want.none rfl) rfl rfl (pe_load rfl rfl .z .pt rfl (.t (.t .z)) ty42 rfl nofun rfl) ?_
  refine To.pure rfl (Want.none rfl) rfl rfl (pe_move rfl rfl) ?_
  obtain ⟨y1016, h_y1016, hm⟩ := bindE hm
  refine To.step rfl (Want.none rfl) rfl rfl (st_call (stack_Stack_Remove.tri k h_y1016 a1013 c1014) rfl rfl fun67 (.dup (.s .z) inferInstance .all)) ?_
  rintro _ _ ⟨_, ⟨a1017, c1018, rfl, rfl⟩, rfl⟩
  refine To.app1 ?_
  refine To.pure rfl (Want.none rfl) rfl rfl (pe_move rfl rfl) ?_
  refine To.pure rfl (Want.none rfl) rfl rfl (pe_extract rfl rfl rfl) ?_
  refine To.pure rfl (Want.none rfl) rfl rfl (pe_extract rfl rfl rfl) ?_
  refine To.step rfl (Want.none rfl) rfl rfl (st_alloc rfl zero42) ?_
  rintro _ _ ⟨b1019, rfl, rfl⟩
  refine To.step0 rfl (Want.none rfl) rfl (st_store rfl rfl rfl rfl .z rfl (.t (.t .z)) ty42 rfl rfl) ?_
  rintro _ _ rfl
  refine To.pure rfl (Want.none rfl) rfl rfl (pe_assign rfl rfl) ?_
  refine To.done ?_
  refine To.keep (Keep.cons 6 rfl (Keep.cons 5 rfl (Keep.cons 4 rfl (Keep.cons 0 rfl Keep.nil)))) ?_
  refine To.nx ?_
  refine To.seq ?_
  refine To.region (l := [0, 1, 2, 3, 4]) rfl ?_
  refine To.pure rfl (Want.none rfl) rfl rfl (pe_move rfl rfl) ?_
  refine To.pure rfl (Want.none rfl) rfl rfl (pe_load rfl rfl .z .pt rfl (.t (.t .z)) ty42 rfl nofun rfl) ?_
  refine To.pure rfl (Want.none rfl) rfl rfl (pe_move rfl rfl) ?_
  refine To.sel (.cons (.s (.s .z)) (.dup (.s (.s .z)) inferInstance (.cons (.s (.s (.s .z))) .all))) (To.imp (cl_spec_State p2) ?_)
  obtain ⟨y1020, h_y1020, hm⟩ := bindE hm
  refine To.step rfl (Want.none rfl) rfl rfl (st_call (spec_State_change.tri k h_y1020 b1 a1017 c1018) rfl rfl fun66 (.cons .z (.dup (.s .z) inferInstance .all))) ?_
  rintro _ _ ⟨_, ⟨a1021, c1022, rfl, rfl⟩, rfl⟩
  refine To.app2 ?_
  refine To.step0 rfl (Want.none rfl) rfl (st_store rfl rfl rfl rfl (.s (.s (.s (.s (.s .z))))) rfl (.t (.t (.t (.t (.t (.t (.t (.t .z)))))))) ty26 rfl rfl) ?_
  rintro _ _ rfl
  refine To.done ?_
  refine To.keep (Keep.cons 4 rfl Keep.nil) ?_
  refine To.sel (.cons .z (.cons .z (.cons .z (.drop (.drop (.drop .all)))))) ?_
  refine To.nx ?_
  refine To.ret ?_
  cases hm
  exact To.back rfl (.cell rfl .z .pt rfl (.t (.t (.t (.t (.t (.t (.t (.t .z)))))))) ty26 rfl nofun rfl .nil) rfl ⟨a1021, c1022, rfl, rfl⟩ (.cons (.s .z) (.cons (.s .z) (.drop .all)))
end Go.Proofs.M
