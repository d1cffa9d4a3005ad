/- The first text under the proof of TaleRows: of any records and any two answers the statement TaleRows returns true, and what came in reads as it did; no condition. -/
import Derived.Below
import Derived.IntWalk
import Derived.Laws.Entries
import Derived.Laws.Externs
import Derived.Lib.Bytealg
import Derived.Orders
set_option linter.unusedVariables false
namespace Go.WG
open Go

/-- What stands at a place of memory: a cell's value and its mark; an object that is no row of cells; nothing. -/
inductive Seen where
  | none
  | cell (v : Value) (frozen : Bool)
  | obj (o : Obj)

def atObj (x : Option Obj) (o : Nat) : Seen :=
  match x with
  | some (.cells c _ (lo, hi)) => match c[o]? with
    | some v => .cell v (decide (lo ≤ o) && decide (o < hi))
    | none => .none
  | some x => .obj x
  | none => .none

def at_ (w : World) (b o : Nat) : Seen := atObj w.heap[b]? o

abbrev Fp := Nat → Nat → Prop
/-- what of a row of cells never changes -/
def mt (w : World) (b : Nat) : Option (TypeId × Nat × Nat × Nat) := match w.heap[b]? with
  | some (.cells c t f) => some (t, c.size, f)
  | _ => none

structure Keeps (w w' : World) (F : Fp) : Prop where
  os : w'.os = w.os
  tape : w'.tape = w.tape
  output : w'.output = w.output
  size : w.heap.size ≤ w'.heap.size
  shp : ∀ b x, mt w b = some x → mt w' b = some x
  same : ∀ b o, F b o → at_ w' b o = at_ w b o

theorem shape_push {w : World} {x : Obj} {n : Nat} : ∀ b y, mt w b = some y → mt { w with heap := w.heap.push x, drawn := n } b = some y := by
  intro b y h
  unfold mt at *
  have hb : b < w.heap.size := by
    rcases Nat.lt_or_ge b w.heap.size with h' | h'
    · exact h'
    · rw [Array.getElem?_eq_none h'] at h; cases h
  simp only [Array.getElem?_push_lt hb]
  rw [Array.getElem?_eq_getElem hb] at h
  exact h
theorem Keeps.refl (w : World) (F : Fp) : Keeps w w F := ⟨rfl, rfl, rfl, Nat.le_refl _, fun _ _ h => h, fun _ _ _ => rfl⟩
theorem Keeps.trans {a b c : World} {F G : Fp} (h : Keeps a b F) (k : Keeps b c G) (hs : ∀ x y, F x y → G x y) : Keeps a c F :=
  ⟨k.os.trans h.os, k.tape.trans h.tape, k.output.trans h.output, Nat.le_trans h.size k.size, fun b y x => k.shp b y (h.shp b y x), fun x y hf => (k.same x y (hs x y hf)).trans (h.same x y hf)⟩
theorem Keeps.sub {w w' : World} {F G : Fp} (h : Keeps w w' F) (hs : ∀ x y, G x y → F x y) : Keeps w w' G :=
  ⟨h.os, h.tape, h.output, h.size, h.shp, fun x y hg => h.same x y (hs x y hg)⟩

/-- An assertion: over a world, the places that never change any more, and the places that are its own. -/
structure Asr where
  holds : World → Fp → Fp → Prop
  mono : ∀ {w w' : World} {I I' O O' : Fp}, holds w I O → (∀ b o, I b o → I' b o) → (∀ b o, O b o → O' b o) →
    Keeps w w' (fun b o => I b o ∨ O b o) → holds w' I' O'

def Sat (w : World) (I : Fp) : List Asr → Fp → Prop
  | [], _ => True
  | A :: H, O => ∃ O1 O2 : Fp, (∀ b o, O1 b o → O b o) ∧ (∀ b o, O2 b o → O b o) ∧ (∀ b o, O1 b o → O2 b o → False) ∧ A.holds w I O1 ∧ Sat w I H O2

theorem Sat.mono {w w' : World} {I I' : Fp} (hI : ∀ b o, I b o → I' b o) : ∀ {H : List Asr} {O O' : Fp}, Sat w I H O → (∀ b o, O b o → O' b o) →
    Keeps w w' (fun b o => I b o ∨ O b o) → Sat w' I' H O'
  | [], _, _, _, _, _ => trivial
  | A :: H, O, O', h, hO, hk => by
    obtain ⟨O1, O2, h1, h2, hd, hA, hH⟩ := h
    exact ⟨O1, O2, fun b o x => hO b o (h1 b o x), fun b o x => hO b o (h2 b o x), hd,
      A.mono hA hI (fun _ _ x => x) (hk.sub fun b o x => x.imp id (h1 b o)),
      Sat.mono hI hH (fun _ _ x => x) (hk.sub fun b o x => x.imp id (h2 b o))⟩

/-- All of a list of assertions hold of a world, each of its own places. -/
def Holds (w : World) (H : List Asr) : Prop :=
  ∃ I O : Fp, (∀ b o, I b o → b < w.heap.size) ∧ (∀ b o, O b o → b < w.heap.size) ∧ (∀ b o, I b o → O b o → False) ∧ Sat w I H O

/-- The one law of change: what stands first is given up; where all else is kept, something else may stand there, over its places, over new ones, and over what never changes. -/
theorem Holds.upd {w : World} {A : Asr} {H : List Asr} (h : Holds w (A :: H)) : ∃ I O1 O2 : Fp,
    (∀ b o, I b o → b < w.heap.size) ∧ (∀ b o, O1 b o → b < w.heap.size) ∧ (∀ b o, O2 b o → b < w.heap.size) ∧ (∀ b o, I b o → O1 b o → False) ∧ (∀ b o, I b o → O2 b o → False) ∧ (∀ b o, O1 b o → O2 b o → False) ∧
    A.holds w I O1 ∧ Sat w I H O2 := by
  obtain ⟨I, O, hI, hO, hd, O1, O2, h1, h2, h12, hA, hH⟩ := h
  exact ⟨I, O1, O2, hI, fun b o x => hO b o (h1 b o x), fun b o x => hO b o (h2 b o x), fun b o x y => hd b o x (h1 b o y), fun b o x y => hd b o x (h2 b o y), h12, hA, hH⟩

theorem Holds.mk {w w' : World} {A : Asr} {H : List Asr} {I O1 O2 I' O1' : Fp}
    (hI : ∀ b o, I b o → b < w.heap.size) (hO2 : ∀ b o, O2 b o → b < w.heap.size) (hIO2 : ∀ b o, I b o → O2 b o → False) (hH : Sat w I H O2)
    (hO1 : ∀ b o, O1 b o → b < w.heap.size) (h1I : ∀ b o, I b o → O1 b o → False) (h12 : ∀ b o, O1 b o → O2 b o → False)
    (hk : Keeps w w' (fun b o => I b o ∨ O2 b o))
    (hI' : ∀ b o, I' b o → I b o ∨ O1 b o ∨ (w.heap.size ≤ b ∧ b < w'.heap.size)) (hII' : ∀ b o, I b o → I' b o)
    (hO1' : ∀ b o, O1' b o → O1 b o ∨ (w.heap.size ≤ b ∧ b < w'.heap.size)) (hd : ∀ b o, I' b o → O1' b o → False)
    (hA : A.holds w' I' O1') : Holds w' (A :: H) := by
  have hs := hk.size
  refine ⟨I', fun b o => O1' b o ∨ O2 b o, ?_, ?_, ?_, O1', O2, fun b o x => .inl x, fun b o x => .inr x, ?_, hA, Sat.mono hII' hH (fun _ _ x => x) hk⟩
  · intro b o x
    rcases hI' b o x with h | h | h
    · have := hI b o h; omega
    · have := hO1 b o h; omega
    · exact h.2
  · intro b o x
    rcases x with x | x
    · rcases hO1' b o x with h | h
      · have := hO1 b o h; omega
      · exact h.2
    · have := hO2 b o x; omega
  · intro b o x y
    rcases y with y | y
    · exact hd b o x y
    · rcases hI' b o x with h | h | h
      · exact hIO2 b o h y
      · exact h12 b o h y
      · have := hO2 b o y; omega
  · intro b o x y
    rcases hO1' b o x with h | h
    · exact h12 b o h y
    · have := hO2 b o y; omega

theorem Sat.perm2 {w : World} {I : Fp} {A B : Asr} {H : List Asr} {O : Fp} (h : Sat w I (A :: B :: H) O) : Sat w I (B :: A :: H) O := by
  obtain ⟨O1, O2, h1, h2, h12, hA, O3, O4, h3, h4, h34, hB, hH⟩ := h
  refine ⟨O3, fun b o => O1 b o ∨ O4 b o, fun b o x => h2 b o (h3 b o x), ?_, ?_, hB, O1, O4, fun b o x => .inl x, fun b o x => .inr x, ?_, hA, hH⟩
  · intro b o x; rcases x with x | x
    · exact h1 b o x
    · exact h2 b o (h4 b o x)
  · intro b o x y; rcases y with y | y
    · exact h12 b o y (h3 b o x)
    · exact h34 b o x y
  · intro b o x y; exact h12 b o x (h4 b o y)

theorem Sat.cons_mono {w : World} {I : Fp} {A : Asr} {H H' : List Asr} (hh : ∀ O, Sat w I H O → Sat w I H' O) {O : Fp} (h : Sat w I (A :: H) O) : Sat w I (A :: H') O := by
  obtain ⟨O1, O2, h1, h2, h12, hA, hH⟩ := h
  exact ⟨O1, O2, h1, h2, h12, hA, hh _ hH⟩

/-- 'H' says at least what 'G' says. -/
def Imp (H G : List Asr) : Prop := ∀ w, Holds w H → Holds w G
theorem Imp.of_sat {H G : List Asr} (h : ∀ w I O, Sat w I H O → Sat w I G O) : Imp H G := fun w ⟨I, O, a, b, c, s⟩ => ⟨I, O, a, b, c, h w I O s⟩

/-- 'A' stands somewhere in 'H', and 'G' is the rest. -/
inductive Pull (A : Asr) : List Asr → List Asr → Prop
  | z {H} : Pull A (A :: H) H
  | s {B H G} : Pull A H G → Pull A (B :: H) (B :: G)

theorem Pull.sat {A : Asr} {H G : List Asr} (p : Pull A H G) : ∀ w I O, Sat w I H O → Sat w I (A :: G) O := by
  induction p with
  | z => exact fun _ _ _ h => h
  | s _ ih => exact fun w I O h => Sat.perm2 (Sat.cons_mono (fun O h => ih w I O h) h)
theorem Pull.imp {A : Asr} {H G : List Asr} (p : Pull A H G) : Imp H (A :: G) := Imp.of_sat p.sat

theorem Sat.drop1 {w : World} {I : Fp} {A : Asr} {H : List Asr} {O : Fp} (h : Sat w I (A :: H) O) : Sat w I H O := by
  obtain ⟨O1, O2, h1, h2, h12, hA, hH⟩ := h
  exact Sat.mono (fun _ _ x => x) hH h2 (Keeps.refl _ _)

/-- what never changes may be told twice -/
class Pers (A : Asr) : Prop where
  dup : ∀ w I O, A.holds w I O → A.holds w I (fun _ _ => False)

/-- A part of 'H' in another order; what never changes may be told twice. -/
inductive Sel : List Asr → List Asr → Prop
  | nil {H} : Sel H []
  | cons {A H G L} : Pull A H G → Sel G L → Sel H (A :: L)
  | dup {A H G L} : Pull A H G → Pers A → Sel H L → Sel H (A :: L)
  | drop {A H L} : Sel H L → Sel (A :: H) L
  | all {H} : Sel H H

theorem Sel.sat {H L : List Asr} (p : Sel H L) : ∀ w I O, Sat w I H O → Sat w I L O := by
  induction p with
  | nil => exact fun _ _ _ _ => trivial
  | cons p _ ih => exact fun w I O h => Sat.cons_mono (fun O h => ih w I O h) (p.sat w I O h)
  | dup p hp _ ih =>
    intro w I O h
    obtain ⟨O1, O2, h1, h2, h12, hA, hH⟩ := p.sat w I O h
    exact ⟨fun _ _ => False, O, fun _ _ x => x.elim, fun _ _ x => x, fun _ _ x => x.elim, hp.dup w I O1 hA, ih w I O h⟩
  | drop _ ih => exact fun w I O h => ih w I O (Sat.drop1 h)
  | all => exact fun _ _ _ h => h
theorem Sel.imp {H L : List Asr} (p : Sel H L) : Imp H L := Imp.of_sat p.sat

end Go.WG

set_option linter.unusedVariables false
namespace Go.WG
open Go

abbrev Frm := List (Nat × Value)

def fget : Frm → Nat → Option Value
  | [], _ => none
  | (i, v) :: l, j => match Nat.beq i j with
    | true => some v
    | false => fget l j

structure Knows (n : Nat) (a : Act) (fr : Frm) : Prop where
  size : a.tmps.size = n
  defers : a.defers = []
  val : ∀ i v, fget fr i = some v → a.tmps.getD i undef = v

theorem Knows.put {n : Nat} {a : Act} {fr : Frm} {d : Nat} {v : Value} (h : Knows n a fr) (hd : d < n) : Knows n (a.put (some d) v) ((d, v) :: fr) := by
  have hs := h.size
  refine ⟨by simp [Act.put, hs], by simpa [Act.put] using h.defers, fun i u hu => ?_⟩
  by_cases e : d = i
  · subst e
    have hb : Nat.beq d d = true := by simp
    simp only [fget, hb, Option.some.injEq] at hu
    subst hu
    have : d < a.tmps.size := by omega
    simp [Act.put, Array.getD, this]
  · have hb : Nat.beq d i = false := by
      cases hbb : Nat.beq d i with
      | false => rfl
      | true => exact absurd (Nat.eq_of_beq_eq_true hbb) e
    simp only [fget, hb] at hu
    have := h.val i u hu
    simp only [Act.put]
    rw [← this]
    simp only [Array.getD_eq_getD_getElem?]
    rw [Array.getElem?_setIfInBounds_ne e]

/-- The new frame is a part of the old one. -/
inductive Keep (fr : Frm) : Frm → Prop
  | nil : Keep fr []
  | cons (i : Nat) {v l} : fget fr i = some v → Keep fr l → Keep fr ((i, v) :: l)

theorem Keep.get {fr fr' : Frm} (h : Keep fr fr') : ∀ i v, fget fr' i = some v → fget fr i = some v := by
  induction h with
  | nil => intro i v h; simp [fget] at h
  | cons j h0 _ ih =>
    rename_i u l
    intro i v h
    simp only [fget] at h
    cases hb : Nat.beq j i with
    | true =>
      rw [hb] at h
      simp only [Option.some.injEq] at h
      have := Nat.eq_of_beq_eq_true hb
      subst this; subst h; exact h0
    | false => rw [hb] at h; exact ih i v h
theorem Knows.keep {n : Nat} {a : Act} {fr fr' : Frm} (h : Knows n a fr) (k : Keep fr fr') : Knows n a fr' :=
  ⟨h.size, h.defers, fun i v x => h.val i v (k.get i v x)⟩

def ev (fr : Frm) : Operand → Option Value
  | .tmp t => fget fr t
  | .const v => some v
  | .global g => some (.pointer (some ⟨g, 0, none⟩))
  | .func f => some (.func (.func f) #[] #[])

theorem Knows.eval {n : Nat} {a : Act} {fr : Frm} {x : Operand} {v : Value} (h : Knows n a fr) (hx : ev fr x = some v) : a.eval x = v := by
  cases x with
  | tmp t => exact h.val t v hx
  | const u => simpa [ev, Act.eval] using hx
  | global g => simpa [ev, Act.eval] using hx
  | func f => simpa [ev, Act.eval] using hx

/-- From every state that the frame and the assertions tell of, 'K'. -/
def To (n : Nat) (K : Act → World → Prop) (fr : Frm) (H : List Asr) : Prop := ∀ a w, Knows n a fr → Holds w H → K a w

section
variable {P : Program} {n : Nat} {K : Act → World → Prop} {Q : Exit → Act → World → Prop} {fr fr' : Frm} {H H' : List Asr} {ops : Array Oper}

theorem To.keep (k : Keep fr fr') (h : To n K fr' H) : To n K fr H := fun a w ha hw => h a w (ha.keep k) hw
theorem To.imp (i : Imp H H') (h : To n K fr H') : To n K fr H := fun a w ha hw => h a w ha (i w hw)
theorem To.pull {A : Asr} (p : Pull A H H') (h : To n K fr (A :: H')) : To n K fr H := To.imp p.imp h
theorem To.sel (p : Sel H H') (h : To n K fr H') : To n K fr H := To.imp p.imp h
theorem To.seq {x y : Code} (h : To n (x.wp P (Exit.then (y.wp P Q) Q)) fr H) : To n ((Code.seq x y).wp P Q) fr H := fun a w ha hw => wp_seq (h a w ha hw)
/-- What stands behind 'y' may be proved once, ahead: of states that 'J' tells of. -/
theorem To.cut {x y : Code} (J : Act → World → Prop) (hy : ∀ a w, J a w → y.wp P Q a w) (h : To n (x.wp P (Exit.then J Q)) fr H) : To n ((Code.seq x y).wp P Q) fr H :=
  fun a w ha hw => wp_seq (wp_mono (h a w ha hw) fun e a w he => by cases e <;> first | exact hy a w he | exact he)
theorem To.skip (h : To n (Q .normal) fr H) : To n (Code.skip.wp P Q) fr H := fun a w ha hw => wp_skip (h a w ha hw)
theorem To.label {l : Nat} (h : To n (Q .normal) fr H) : To n ((Code.label l).wp P Q) fr H := fun a w ha hw => wp_label (h a w ha hw)
theorem To.exit {id : Nat} (h : To n (Q (.exit id)) fr H) : To n ((Code.exit id).wp P Q) fr H := fun a w ha hw => wp_exit (h a w ha hw)
theorem To.ret (h : To n (Q .ret) fr H) : To n (Code.ret.wp P Q) fr H := fun a w ha hw => wp_ret (h a w ha hw)
theorem To.block {id : Nat} {c : Code} (h : To n (c.wp P (Exit.inBlock id Q)) fr H) : To n ((Code.block id c).wp P Q) fr H := fun a w ha hw => wp_block (h a w ha hw)
theorem To.cond {c : Operand} {x y : Code} {t : Bool} (hc : ev fr c = some (.bool t)) (ht : t = true → To n (x.wp P Q) fr H) (hf : t = false → To n (y.wp P Q) fr H) :
    To n ((Code.cond c x y).wp P Q) fr H := fun a w ha hw => wp_cond_split (ha.eval hc) (fun h => ht h a w ha hw) (fun h => hf h a w ha hw)
theorem To.condT {c : Operand} {x y : Code} (hc : ev fr c = some (.bool true)) (h : To n (x.wp P Q) fr H) : To n ((Code.cond c x y).wp P Q) fr H :=
  fun a w ha hw => wp_cond_true (ha.eval hc) (h a w ha hw)
theorem To.condF {c : Operand} {x y : Code} (hc : ev fr c = some (.bool false)) (h : To n (y.wp P Q) fr H) : To n ((Code.cond c x y).wp P Q) fr H :=
  fun a w ha hw => wp_cond_false (ha.eval hc) (h a w ha hw)

/-- The way out: what follows a part; what leaves it. -/
theorem To.nx (h : To n K fr H) : To n (Exit.then K Q .normal) fr H := h
theorem To.tx {i : Nat} (h : To n (Q (.exit i)) fr H) : To n (Exit.then K Q (.exit i)) fr H := h
theorem To.tr (h : To n (Q .ret) fr H) : To n (Exit.then K Q .ret) fr H := h
theorem To.bn {id : Nat} (h : To n (Q .normal) fr H) : To n (Exit.inBlock id Q .normal) fr H := h
theorem To.br {id : Nat} (h : To n (Q .ret) fr H) : To n (Exit.inBlock id Q .ret) fr H := h
theorem To.bx {id : Nat} (h : To n (Q .normal) fr H) : To n (Exit.inBlock id Q (.exit id)) fr H := by
  intro a w ha hw; simpa [Exit.inBlock] using h a w ha hw
theorem To.bo {id i : Nat} (hne : Nat.beq i id = false) (h : To n (Q (.exit i)) fr H) : To n (Exit.inBlock id Q (.exit i)) fr H := by
  intro a w ha hw
  have : i ≠ id := fun e => by subst e; simp at hne
  simpa [Exit.inBlock, this] using h a w ha hw

/-- A loop, by rounds: 'R k' is what holds at the head of a round where there are 'k' of them at most. -/
theorem wp_loop_k {c : Code} (R : Nat → Act → World → Prop) (h0 : ∀ a w, ¬ R 0 a w)
    (hs : ∀ k a w, R (k + 1) a w → c.wp P (Exit.then (R k) Q) a w) (k : Nat) {a : Act} {w : World} (h : R k a w) : (Code.loop c).wp P Q a w := by
  intro b t cs
  have key : ∀ k a w, R k a w → ∃ e a' w', Q e a' w' ∧ Arrives P (lone (b.at a (.code c :: .inLoop c :: t)) cs w) b t cs e a' w' := by
    intro k
    induction k with
    | zero => exact fun a w h => absurd h (h0 a w)
    | succ k ih =>
      intro a w h
      obtain ⟨e, a₁, w₁, hq, harr⟩ := hs k a w h b (.inLoop c :: t) cs
      cases e with
      | normal =>
        obtain ⟨e₂, a₂, w₂, hq₂, harr₂⟩ := ih a₁ w₁ hq
        exact ⟨e₂, a₂, w₂, hq₂, .of_steps (Steps.trans harr (.one step_inLoop)) harr₂⟩
      | exit id => exact ⟨_, a₁, w₁, hq, .pass (x := .inLoop c) rfl (fun _ _ => .inl (by simp)) harr⟩
      | goto l => exact ⟨_, a₁, w₁, hq, .pass (x := .inLoop c) rfl (fun _ _ => .inl (by simp)) harr⟩
      | ret => exact ⟨_, a₁, w₁, hq, .pass (x := .inLoop c) rfl (fun _ _ => .inl (by simp)) harr⟩
      | panic ch => exact ⟨_, a₁, w₁, hq, .pass (x := .inLoop c) rfl (fun _ _ => .inl (by simp)) harr⟩
      | outgrown => exact ⟨_, a₁, w₁, hq, .pass (x := .inLoop c) rfl (fun _ _ => .inl (by simp)) harr⟩
  obtain ⟨e, a', w', hq, harr⟩ := key k a w h
  exact ⟨e, a', w', hq, .of_steps (.one step_loop) harr⟩

theorem To.loop {c : Code} (R : Nat → Act → World → Prop) (h0 : ∀ a w, ¬ R 0 a w)
    (hs : ∀ k a w, R (k + 1) a w → c.wp P (Exit.then (R k) Q) a w) (k : Nat) (h : To n (R k) fr H) : To n ((Code.loop c).wp P Q) fr H :=
  fun a w ha hw => wp_loop_k R h0 hs k (h a w ha hw)

/-! Regions -/
/-- Whether an operation is wanted: it is, or it isn't, by what the frame tells of its guard. -/
def Want (ops : Array Oper) (o : Oper) (n : Nat) (fr : Frm) (b : Bool) : Prop := ∀ a, Knows n a fr → Region.wanted o (yielded ops a.tmps) = b
theorem Want.none {o : Oper} (h : o.guard = none) : Want ops o n fr true := fun a _ => by simp [Region.wanted, h]
theorem Want.of {o oj : Oper} {j dj : Nat} {c x b : Bool} (h : o.guard = some (j, c)) (hj : ops[j]? = some oj) (hd : oj.dst = some dj) (hx : fget fr dj = some (.bool x))
    (hdn : Nat.ble (dj + 1) n = true) (hb : (x == c) = b) : Want ops o n fr b := by
  have hdn := Nat.le_of_ble_eq_true hdn
  intro a ha
  have := ha.val dj _ hx
  have hs := ha.size
  have hlt : dj < a.tmps.size := by omega
  have hget : a.tmps[dj]? = some (.bool x) := by
    simp only [Array.getD, hlt, dif_pos] at this
    rw [Array.getElem?_eq_getElem hlt]; exact congrArg some this
  simp only [Region.wanted, h, yielded, hj, Option.bind_some, hd, hget]
  cases x <;> cases c <;> simpa using hb

/-- An operation that changes nothing, and what it comes to. -/
def PureEval (P : Program) (o : Oper) (n : Nat) (fr : Frm) (H : List Asr) (v : Value) : Prop :=
  ∀ a w, Knows n a fr → Holds w H → (execOp a.eval o).run P w = .ok (.value v) w
/-- What comes of an operation, by its value and the world behind it. -/
def UponV (P : Program) (K : Value → World → Prop) : Result Next → Prop
  | .ok (.value v) w => K v w
  | .ok .skip w => K undef w
  | .ok (.enter f args) w => Calls P f args w fun
      | .returned v, w' => K v w'
      | _, _ => False
  | .ok (.row row args) w => Rows P row args w K
  | _ => False
theorem UponV.upon {K' : Value → World → Prop} {o : Oper} {a : Act} {r : Result Next} (h : UponV P K' r) (hk : ∀ v w, K' v w → K (a.put o.dst v) w) : o.upon P a K Q r := by
  cases r with
  | ok x w =>
    cases x <;> simp only [UponV] at h <;> first
      | exact hk _ _ h
      | (exact Calls.mono h fun e w' he => by cases e <;> first | exact hk _ _ he | exact he.elim)
      | exact Rows.mono h fun v w' he => hk _ _ he
  | halt x w => exact h.elim
theorem UponV.mono {K' K'' : Value → World → Prop} {r : Result Next} (h : UponV P K' r) (hk : ∀ v w, K' v w → K'' v w) : UponV P K'' r := by
  cases r with
  | ok x w =>
    cases x <;> simp only [UponV] at h ⊢ <;> first
      | exact hk _ _ h
      | (exact Calls.mono h fun e w' he => by cases e <;> first | exact hk _ _ he | exact he.elim)
      | exact Rows.mono h fun v w' he => hk _ _ he
  | halt x w => exact h.elim
/-- An operation that does something: what it comes to, and what holds then. -/
def Step (P : Program) (o : Oper) (n : Nat) (fr : Frm) (H : List Asr) (Φ : Value → List Asr → Prop) : Prop :=
  ∀ (a : Act) (w : World), Knows n a fr → Holds w H → UponV P (fun v w' => ∃ H', Φ v H' ∧ Holds w' H') ((execOp a.eval o).run P w)

theorem PureEval.step {o : Oper} {v : Value} (h : PureEval P o n fr H v) : Step P o n fr H (fun u H' => u = v ∧ H' = H) := by
  intro a w ha hw
  rw [h a w ha hw]
  exact ⟨H, ⟨rfl, rfl⟩, hw⟩
theorem Step.wp {o : Oper} {Φ : Value → List Asr → Prop} (hs : Step P o n fr H Φ) {a : Act} {w : World} (ha : Knows n a fr) (hw : Holds w H)
    (hK : ∀ v H' w', Φ v H' → Holds w' H' → K (a.put o.dst v) w') : o.wp P a w K Q :=
  (hs a w ha hw).upon fun v w' ⟨H', h1, h2⟩ => hK v H' w' h1 h2

theorem wpOps_step {o : Oper} {i : Nat} {rest : List Nat} {a : Act} {w : World} (ho : ops[i]? = some o) (hw : Region.wanted o (yielded ops a.tmps) = true)
    (h : o.wp P a w (wpOps P ops Q rest) Q) : wpOps P ops Q (i :: rest) a w := by
  simp only [wpOps, ho, hw, if_true]; exact .inl h
theorem wpOps_skip {o : Oper} {i : Nat} {rest : List Nat} {a : Act} {w : World} (ho : ops[i]? = some o) (hw : Region.wanted o (yielded ops a.tmps) = false)
    (h : wpOps P ops Q rest (a.put o.dst undef) w) : wpOps P ops Q (i :: rest) a w := by
  simp only [wpOps, ho, hw]; exact h

theorem To.region {id : Nat} {l : List Nat} (hl : List.range ops.size = l) (h : To n (wpOps P ops Q l) fr H) : To n ((Code.region id ops false).wp P Q) fr H :=
  fun a w ha hw => wp_region (hl ▸ h a w ha hw)
theorem To.done (h : To n (Q .normal) fr H) : To n (wpOps P ops Q []) fr H := h
theorem To.pure {o : Oper} {i d : Nat} {rest : List Nat} {v : Value} (ho : ops[i]? = some o) (hg : Want ops o n fr true) (hd : o.dst = some d) (hn : Nat.ble (d + 1) n = true)
    (hv : PureEval P o n fr H v) (h : To n (wpOps P ops Q rest) ((d, v) :: fr) H) : To n (wpOps P ops Q (i :: rest)) fr H := by
  intro a w ha hw
  refine wpOps_step ho (hg a ha) ?_
  simp only [Oper.wp, hv a w ha hw, Oper.upon, hd]
  exact h _ w (ha.put (Nat.le_of_ble_eq_true hn)) hw
theorem To.skipped {o : Oper} {i d : Nat} {rest : List Nat} (ho : ops[i]? = some o) (hg : Want ops o n fr false) (hd : o.dst = some d) (hn : Nat.ble (d + 1) n = true)
    (h : To n (wpOps P ops Q rest) ((d, undef) :: fr) H) : To n (wpOps P ops Q (i :: rest)) fr H := by
  intro a w ha hw
  refine wpOps_skip ho (hg a ha) ?_
  rw [hd]; exact h _ w (ha.put (Nat.le_of_ble_eq_true hn)) hw
theorem To.skipped0 {o : Oper} {i : Nat} {rest : List Nat} (ho : ops[i]? = some o) (hg : Want ops o n fr false) (hd : o.dst = none)
    (h : To n (wpOps P ops Q rest) fr H) : To n (wpOps P ops Q (i :: rest)) fr H := by
  intro a w ha hw
  refine wpOps_skip ho (hg a ha) ?_
  rw [hd]; exact h _ w ha hw
theorem To.step {o : Oper} {i d : Nat} {rest : List Nat} {Φ : Value → List Asr → Prop} (ho : ops[i]? = some o) (hg : Want ops o n fr true) (hd : o.dst = some d) (hn : Nat.ble (d + 1) n = true)
    (hs : Step P o n fr H Φ) (h : ∀ v H', Φ v H' → To n (wpOps P ops Q rest) ((d, v) :: fr) H') : To n (wpOps P ops Q (i :: rest)) fr H := by
  intro a w ha hw
  refine wpOps_step ho (hg a ha) (hs.wp ha hw fun v H' w' hv hw' => ?_)
  rw [hd]; exact h v H' hv _ w' (ha.put (Nat.le_of_ble_eq_true hn)) hw'
theorem To.step0 {o : Oper} {i : Nat} {rest : List Nat} {Φ : Value → List Asr → Prop} (ho : ops[i]? = some o) (hg : Want ops o n fr true) (hd : o.dst = none)
    (hs : Step P o n fr H Φ) (h : ∀ v H', Φ v H' → To n (wpOps P ops Q rest) fr H') : To n (wpOps P ops Q (i :: rest)) fr H := by
  intro a w ha hw
  refine wpOps_step ho (hg a ha) (hs.wp ha hw fun v H' w' hv hw' => ?_)
  rw [hd]; exact h v H' hv _ w' ha hw'
end
end Go.WG

set_option linter.unusedVariables false
namespace Go.WG
open Go

def deps (o : Oper) : List Nat := (o.after.toList.filter (Region.binds .any)).map (·.on)

/-- 'M' tells of each operation some that come ahead of it, by bits. -/
def masksOk (ops : Array Oper) (M : List Nat) : Bool :=
  (List.range ops.size).all fun i => match ops[i]? with
    | some o =>
      let X := (deps o).foldl (fun s j => s ||| 2 ^ j ||| M.getD j 0) 0
      (M.getD i 0 ||| X) == X && (deps o).all (fun j => decide (j < i))
    | none => true

theorem fold_or (M : List Nat) : ∀ (l : List Nat) (s t : Nat), (l.foldl (fun s j => s ||| 2 ^ j ||| M.getD j 0) s).testBit t = true →
    s.testBit t = true ∨ ∃ j ∈ l, t = j ∨ (M.getD j 0).testBit t = true
  | [], s, t, h => .inl h
  | j :: l, s, t, h => by
    rcases fold_or M l _ t h with h | ⟨k, hk, h⟩
    · simp only [Nat.testBit_or, Bool.or_eq_true, Nat.testBit_two_pow, decide_eq_true_eq] at h
      rcases h with (h | h) | h
      · exact .inl h
      · exact .inr ⟨j, .head _, .inl h.symm⟩
      · exact .inr ⟨j, .head _, .inr h⟩
    · exact .inr ⟨k, .tail _ hk, h⟩

section
variable {P : Program} {n : Nat} {Q : Exit → Act → World → Prop} {ops : Array Oper} {M : List Nat}

structure Closed (ops : Array Oper) (L : Array Bool) : Prop where
  size : L.size = ops.size
  deps : ∀ i o, ops[i]? = some o → L.getD i true = true → ∀ j ∈ deps o, L.getD j false = true

theorem mask_in (hM : masksOk ops M = true) {L : Array Bool} (hL : Closed ops L) : ∀ (i : Nat) (o : Oper), ops[i]? = some o → (∀ j ∈ deps o, L.getD j false = true) →
    ∀ t, (M.getD i 0).testBit t = true → L.getD t false = true := by
  intro i
  induction i using Nat.strongRecOn with
  | _ i ih =>
    intro o ho hd t ht
    have hi : i < ops.size := by
      rcases Nat.lt_or_ge i ops.size with h | h
      · exact h
      · simp [Array.getElem?_eq_none h] at ho
    have h := List.all_eq_true.1 hM i (List.mem_range.2 hi)
    simp only [ho, Bool.and_eq_true, beq_iff_eq, List.all_eq_true, decide_eq_true_eq] at h
    obtain ⟨hx, hlt⟩ := h
    have : ((deps o).foldl (fun s j => s ||| 2 ^ j ||| M.getD j 0) 0).testBit t = true := by
      rw [← hx, Nat.testBit_or, ht]; rfl
    rcases fold_or M _ _ t this with h0 | ⟨j, hj, h0⟩
    · simp at h0
    · rcases h0 with rfl | h0
      · exact hd _ hj
      · have hjl := hlt j hj
        have hLj := hd j hj
        have hjs : j < ops.size := by omega
        refine ih j hjl ops[j] (by simp [hjs]) (hL.deps j ops[j] (by simp [hjs]) ?_) t h0
        have : j < L.size := by rw [hL.size]; exact hjs
        simp only [Array.getD, this, dif_pos] at hLj ⊢; exact hLj

/-- What an operation that only reads comes to: or that it is passed over. -/
def PureG (P : Program) (ops : Array Oper) (o : Oper) (n : Nat) (fr : Frm) (w : World) (v : Value) : Prop :=
  ∀ a, Knows n a fr → (Region.wanted o (yielded ops a.tmps) = true ∧ (execOp a.eval o).run P w = .ok (.value v) w) ∨
    (Region.wanted o (yielded ops a.tmps) = false ∧ v = undef)

theorem PureG.of {o : Oper} {fr : Frm} {H : List Asr} {v : Value} (hg : Want ops o n fr true) (hv : PureEval P o n fr H v) : ∀ w, Holds w H → PureG P ops o n fr w v :=
  fun w hw a ha => .inl ⟨hg a ha, hv a w ha hw⟩
theorem PureG.skip {o : Oper} {fr : Frm} {H : List Asr} (hg : Want ops o n fr false) : ∀ w, Holds w H → PureG P ops o n fr w undef :=
  fun w hw a ha => .inr ⟨hg a ha, rfl⟩

structure Pre where
  i : Nat
  d : Nat
  v : Value

/-- may 'd' be written early: whoever names it comes behind -/
def freeDst (ops : Array Oper) (M : List Nat) (i d : Nat) : Bool :=
  (List.range ops.size).all fun j => match ops[j]? with
    | some o => (!(o.looksAt ops).contains d && (j == i || o.dst != some d)) || (M.getD j 0).testBit i
    | none => true

def has (sp : List Nat) (pre : List Nat) (i : Nat) : Bool := sp.contains i || pre.contains i
def avail (ops : Array Oper) (sp pre : List Nat) : List Nat :=
  (List.range ops.size).filter fun i => !has sp pre i && (match ops[i]? with
    | some o => (deps o).all (has sp pre)
    | none => true)

/-- the operations that were told of ahead, and may come behind 'e': told anew -/
def Again (P : Program) (ops : Array Oper) (M : List Nat) (n : Nat) (e : Nat) (fr : Frm) (H : List Asr) : List Pre → Prop
  | [] => True
  | p :: l => (match (M.getD e 0).testBit p.i with
      | true => True
      | false => ∃ o, ops[p.i]? = some o ∧ ∀ w, Holds w H → PureG P ops o n fr w p.v) ∧ Again P ops M n e fr H l
theorem Again.nil {P : Program} {ops : Array Oper} {M : List Nat} {n e : Nat} {fr : Frm} {H : List Asr} : Again P ops M n e fr H [] := trivial
theorem Again.anc {P : Program} {ops : Array Oper} {M : List Nat} {n e : Nat} {fr : Frm} {H : List Asr} {p : Pre} {l : List Pre} (h : (M.getD e 0).testBit p.i = true) (hl : Again P ops M n e fr H l) : Again P ops M n e fr H (p :: l) :=
  ⟨by rw [h]; trivial, hl⟩
theorem Again.new {P : Program} {ops : Array Oper} {M : List Nat} {n e : Nat} {fr : Frm} {H : List Asr} {p : Pre} {l : List Pre} {o : Oper} (ho : ops[p.i]? = some o) (h : ∀ w, Holds w H → PureG P ops o n fr w p.v) (hl : Again P ops M n e fr H l) : Again P ops M n e fr H (p :: l) :=
  ⟨by split <;> first | trivial | exact ⟨o, ho, h⟩, hl⟩
def beside (ops : Array Oper) (M : List Nat) (e : Nat) (d : Option Nat) (pre : List Pre) : Bool :=
  match d with
  | none => true
  | some d => pre.all fun p => (M.getD e 0).testBit p.i || (p.d != d && match ops[p.i]? with
    | some o => !(o.looksAt ops).contains d
    | none => true)

def push (fr : Frm) : Option Nat → Value → Frm
  | some d, v => (d, v) :: fr
  | none, _ => fr
def dstOk (n : Nat) : Option Nat → Bool
  | some d => Nat.ble (d + 1) n
  | none => true

inductive Dr (P : Program) (n : Nat) (ops : Array Oper) (Q : Exit → Act → World → Prop) (M : List Nat) : List Nat → List Pre → Frm → List Asr → Prop
  | done {sp pre fr H} : (List.range ops.size).all (has sp (pre.map (·.i))) = true → To n (Q .normal) fr H → Dr P n ops Q M sp pre fr H
  | pure {sp pre fr H} (i d : Nat) (o : Oper) (v : Value) : ops[i]? = some o → o.dst = some d → Nat.ble (d + 1) n = true → fget fr d = none →
      has sp (pre.map (·.i)) i = false → (deps o).all (has sp (pre.map (·.i))) = true → freeDst ops M i d = true →
      (∀ w, Holds w H → PureG P ops o n fr w v) → Dr P n ops Q M sp (⟨i, d, v⟩ :: pre) ((d, v) :: fr) H → Dr P n ops Q M sp pre fr H
  | ex {sp pre fr H} {α : Type} (H' : α → List Asr) : (∀ w, Holds w H → ∃ x, Holds w (H' x)) → (∀ x, Dr P n ops Q M sp pre fr (H' x)) → Dr P n ops Q M sp pre fr H
  | step1 {sp pre fr H} (e : Nat) (o : Oper) (Φ : Value → List Asr → Prop) : avail ops sp (pre.map (·.i)) = [e] → ops[e]? = some o → dstOk n o.dst = true → beside ops M e o.dst pre = true →
      Want ops o n fr true → Step P o n fr H Φ →
      (∀ v H', Φ v H' → Again P ops M n e (push fr o.dst v) H' pre) →
      (∀ v H', Φ v H' → Dr P n ops Q M (e :: sp) pre (push fr o.dst v) H') → Dr P n ops Q M sp pre fr H
  | step2 {sp pre fr H} (e f : Nat) (o q : Oper) (Φ Ψ : Value → List Asr → Prop) : avail ops sp (pre.map (·.i)) = [e, f] →
      ops[e]? = some o → dstOk n o.dst = true → beside ops M e o.dst pre = true → Want ops o n fr true → Step P o n fr H Φ →
      (∀ v H', Φ v H' → Again P ops M n e (push fr o.dst v) H' pre) →
      (∀ v H', Φ v H' → Dr P n ops Q M (e :: sp) pre (push fr o.dst v) H') →
      ops[f]? = some q → dstOk n q.dst = true → beside ops M f q.dst pre = true → Want ops q n fr true → Step P q n fr H Ψ →
      (∀ v H', Ψ v H' → Again P ops M n f (push fr q.dst v) H' pre) →
      (∀ v H', Ψ v H' → Dr P n ops Q M (f :: sp) pre (push fr q.dst v) H') → Dr P n ops Q M sp pre fr H

/-- what holds between the run and what was told ahead of it -/
structure Inv (P : Program) (n : Nat) (ops : Array Oper) (M : List Nat) (sp : List Nat) (pre : List Pre) (fr : Frm) (L : Array Bool) (a : Act) (w : World) (fuel : Nat) : Prop where
  closed : Closed ops L
  spin : ∀ i ∈ sp, L.getD i false = true
  within : ∀ i, i < ops.size → L.getD i true = true → has sp (pre.map (·.i)) i = true
  asize : a.tmps.size = n
  defers : a.defers = []
  vals : ∀ t v, fget fr t = some v → (∃ p ∈ pre, L.getD p.i true = false ∧ p.d = t) ∨ a.tmps.getD t undef = v
  pres : ∀ p ∈ pre, L.getD p.i true = false → p.i < ops.size ∧ fget fr p.d = some p.v ∧ Nat.ble (p.d + 1) n = true ∧ freeDst ops M p.i p.d = true ∧
    ∀ o, ops[p.i]? = some o → o.dst = some p.d ∧ PureG P ops o n fr w p.v
  fuel : (List.range ops.size).countP (fun i => !L.getD i true) ≤ fuel

theorem has_iff {sp pre : List Nat} {i : Nat} : has sp pre i = true ↔ i ∈ sp ∨ i ∈ pre := by simp [has]

theorem count_set {L : Array Bool} {i n : Nat} (hi : i < n) (hL : L.size = n) (h : L.getD i true = false) {fuel : Nat}
    (hf : (List.range n).countP (fun j => !L.getD j true) ≤ fuel + 1) : (List.range n).countP (fun j => !(L.setIfInBounds i true).getD j true) ≤ fuel := by
  have key : ∀ (l : List Nat), l.Nodup → (i ∈ l → l.countP (fun j => !(L.setIfInBounds i true).getD j true) + 1 ≤ l.countP (fun j => !L.getD j true)) ∧
      (i ∉ l → l.countP (fun j => !(L.setIfInBounds i true).getD j true) ≤ l.countP (fun j => !L.getD j true)) := by
    intro l
    induction l with
    | nil => intro _; simp
    | cons x l ih =>
      intro hn
      obtain ⟨hx, hn⟩ := List.nodup_cons.1 hn
      obtain ⟨h1, h2⟩ := ih hn
      constructor
      · intro hm
        simp only [List.countP_cons]
        by_cases e : x = i
        · subst e
          have := h2 hx
          have hx1 : (L.setIfInBounds x true).getD x true = true := by
            simp only [Array.getD_eq_getD_getElem?, Array.getElem?_setIfInBounds]
            simp [hL, hi]
          rw [hx1, h]
          simpa using this
        · have hm' : i ∈ l := by
            cases hm with
            | head => exact absurd rfl e
            | tail _ h => exact h
          have := h1 hm'
          have hx1 : (L.setIfInBounds i true).getD x true = L.getD x true := by
            simp only [Array.getD_eq_getD_getElem?]; rw [Array.getElem?_setIfInBounds_ne (fun h => e h.symm)]
          rw [hx1]; omega
      · intro hm
        have e : x ≠ i := fun h => hm (h ▸ .head _)
        have := h2 fun h => hm (.tail _ h)
        have hx1 : (L.setIfInBounds i true).getD x true = L.getD x true := by
          simp only [Array.getD_eq_getD_getElem?]; rw [Array.getElem?_setIfInBounds_ne (fun h => e h.symm)]
        simp only [List.countP_cons, hx1]
        omega
  have := (key (List.range n) List.nodup_range).1 (List.mem_range.2 hi)
  omega

theorem getD_set {L : Array Bool} {i j : Nat} {b : Bool} (hi : i < L.size) : (L.setIfInBounds i true).getD j b = if j = i then true else L.getD j b := by
  simp only [Array.getD_eq_getD_getElem?]
  by_cases e : j = i
  · subst e; simp [hi]
  · rw [Array.getElem?_setIfInBounds_ne (fun h => e h.symm)]; simp [e]

theorem ready_mem {L : Array Bool} (hL : L.size = ops.size) {i : Nat} : i ∈ Region.ready .any ops L ↔ i < ops.size ∧ L.getD i true = false ∧ ∃ o, ops[i]? = some o ∧ ∀ j ∈ deps o, L.getD j false = true := by
  simp only [Region.ready, List.mem_filter, List.mem_range]
  constructor
  · rintro ⟨hi, h⟩
    simp only [Bool.and_eq_true, Bool.not_eq_true'] at h
    refine ⟨hi, h.1, ops[i], by simp [hi], fun j hj => ?_⟩
    have h2 := h.2
    rw [show ops[i]? = some ops[i] by simp [hi]] at h2
    simp only [Option.map_some, Option.getD_some, Array.all_eq_true'] at h2
    simp only [deps, List.mem_map, List.mem_filter, Array.mem_toList_iff] at hj
    obtain ⟨e, ⟨he, hb⟩, rfl⟩ := hj
    have := h2 e he
    simpa [hb] using this
  · rintro ⟨hi, h1, o, ho, h2⟩
    refine ⟨hi, ?_⟩
    simp only [h1, ho, Bool.not_false, Bool.true_and, Option.map_some, Option.getD_some, Array.all_eq_true']
    intro e he
    by_cases hb : Region.binds .any e = true
    · have := h2 e.on (by simp only [deps, List.mem_map, List.mem_filter, Array.mem_toList_iff]; exact ⟨e, ⟨he, hb⟩, rfl⟩)
      simp [this]
    · simp [hb]

/-- where something is left, something is ready -/
theorem ready_ne (hM : masksOk ops M = true) {L : Array Bool} (hL : L.size = ops.size) {i : Nat} (hi : i < ops.size) (h : L.getD i true = false) : Region.ready .any ops L ≠ [] := by
  induction i using Nat.strongRecOn with
  | _ i ih =>
    by_cases hd : ∀ j ∈ deps ops[i], L.getD j false = true
    · have : i ∈ Region.ready .any ops L := (ready_mem hL).2 ⟨hi, h, ops[i], by simp [hi], hd⟩
      intro e; rw [e] at this; cases this
    · simp only [Classical.not_forall] at hd
      obtain ⟨j, hj, hn⟩ := hd
      have hm := List.all_eq_true.1 hM i (List.mem_range.2 hi)
      simp only [show ops[i]? = some ops[i] by simp [hi], Bool.and_eq_true, beq_iff_eq, List.all_eq_true, decide_eq_true_eq] at hm
      have hlt := hm.2 j hj
      have hjs : j < ops.size := by omega
      have : j < L.size := by omega
      refine ih j hlt hjs ?_
      simp only [Array.getD, this, dif_pos] at hn ⊢
      exact Bool.eq_false_iff.2 hn

theorem looks_op {o : Oper} {t : Nat} (h : Operand.tmp t ∈ o.op.operands) : t ∈ o.looksAt ops := by
  simp only [Oper.looksAt, List.mem_append, List.mem_filterMap, Array.mem_toList_iff]
  exact .inl ⟨.tmp t, h, rfl⟩
theorem looks_guard {o oj : Oper} {j t : Nat} {c : Bool} (h : o.guard = some (j, c)) (hj : ops[j]? = some oj) (hd : oj.dst = some t) : t ∈ o.looksAt ops := by
  simp only [Oper.looksAt, List.mem_append, h, hj]
  exact .inr (by simp [hd])

theorem eval_same {a c' : Act} {o : Oper} (h : ∀ t, t ∈ o.looksAt ops → c'.tmps.getD t undef = a.tmps.getD t undef) : ∀ x ∈ o.op.operands, a.eval x = c'.eval x := by
  intro x hx
  cases x with
  | tmp t => exact (h t (looks_op hx)).symm
  | _ => rfl
theorem wanted_same {a c' : Act} {o : Oper} (hs : c'.tmps.size = a.tmps.size) (h : ∀ t, t ∈ o.looksAt ops → c'.tmps.getD t undef = a.tmps.getD t undef) :
    Region.wanted o (yielded ops a.tmps) = Region.wanted o (yielded ops c'.tmps) := by
  unfold Region.wanted
  cases hg : o.guard with
  | none => rfl
  | some g =>
    obtain ⟨j, c⟩ := g
    simp only
    have : yielded ops a.tmps j = yielded ops c'.tmps j := by
      unfold yielded
      cases hj : ops[j]? with
      | none => rfl
      | some oj =>
        cases hd : oj.dst with
        | none => simp [hd]
        | some t =>
          have := h t (looks_guard hg hj hd)
          simp only [Option.bind_some, hd]
          have e : a.tmps[t]? = c'.tmps[t]? := by
            rcases Nat.lt_or_ge t a.tmps.size with ht | ht
            · have ht' : t < c'.tmps.size := hs ▸ ht
              simp only [Array.getD, ht, ht', dif_pos] at this
              rw [Array.getElem?_eq_getElem ht, Array.getElem?_eq_getElem ht']
              exact congrArg some this.symm
            · have ht' : c'.tmps.size ≤ t := hs ▸ ht
              rw [Array.getElem?_eq_none ht, Array.getElem?_eq_none ht']
          rw [e]
    rw [this]

/-- the act in which all that was told of ahead has come -/
theorem Inv.fill {sp : List Nat} {pre : List Pre} {fr : Frm} {L : Array Bool} {a : Act} {w : World} {fuel : Nat} (h : Inv P n ops M sp pre fr L a w fuel) :
    ∃ c : Act, Knows n c fr ∧ c.tmps.size = a.tmps.size ∧ ∀ t, (∀ p ∈ pre, L.getD p.i true = false → p.d ≠ t) → c.tmps.getD t undef = a.tmps.getD t undef := by
  let f : Nat → Value := fun t => match fget fr t with
    | some v => v
    | none => a.tmps.getD t undef
  refine ⟨{ tmps := (Array.range n).map f, defers := [] }, ⟨by simp, rfl, ?_⟩, by simp [h.asize], ?_⟩
  · intro t v hv
    have hf : f t = v := by simp only [f, hv]
    rcases Nat.lt_or_ge t n with ht | ht
    · simp [Array.getD, ht, hf]
    · rcases h.vals t v hv with ⟨p, hp, hl, rfl⟩ | hval
      · have := (h.pres p hp hl).2.2.1
        have := Nat.le_of_ble_eq_true this
        omega
      · have : ¬ t < a.tmps.size := by rw [h.asize]; omega
        simp only [Array.getD, this, dif_neg, not_false_eq_true] at hval
        simp [Array.getD, Nat.not_lt.2 ht, hval]
  · intro t ht
    rcases Nat.lt_or_ge t n with hn | hn
    · have hf : f t = a.tmps.getD t undef := by
        simp only [f]
        cases hv : fget fr t with
        | none => rfl
        | some v =>
          rcases h.vals t v hv with ⟨p, hp, hl, hd⟩ | hval
          · exact absurd hd (ht p hp hl)
          · exact hval.symm
      rw [← hf]
      simp [Array.getD, hn]
    · have : ¬ t < a.tmps.size := by rw [h.asize]; omega
      simp [Array.getD, Nat.not_lt.2 hn, this]

theorem freeDst_spec {i d j : Nat} {o : Oper} (h : freeDst ops M i d = true) (hj : j < ops.size) (ho : ops[j]? = some o) :
    (d ∉ o.looksAt ops ∧ (j ≠ i → o.dst ≠ some d)) ∨ (M.getD j 0).testBit i = true := by
  have := List.all_eq_true.1 h j (List.mem_range.2 hj)
  simp only [ho, Bool.or_eq_true, Bool.and_eq_true, Bool.not_eq_true', beq_iff_eq, bne_iff_ne, ne_eq] at this
  rcases this with ⟨h1, h2⟩ | h
  · exact .inl ⟨by simpa using h1, fun hne => h2.resolve_left hne⟩
  · exact .inr h

theorem getD_tf {L : Array Bool} {i : Nat} (h : L.getD i false = true) (h' : L.getD i true = false) : False := by
  simp only [Array.getD] at h h'
  split at h <;> simp_all

def Plain (ops : Array Oper) : Prop := ∀ (i : Nat) (o : Oper), ops[i]? = some o → ∀ (cs : Array SelectCase) (b : Bool), o.op ≠ .select cs b

theorem Inv.looks (hM : masksOk ops M = true) {sp : List Nat} {pre : List Pre} {fr : Frm} {L : Array Bool} {a : Act} {w : World} {fuel : Nat}
    (h : Inv P n ops M sp pre fr L a w fuel) {i : Nat} {o : Oper} (hi : i < ops.size) (ho : ops[i]? = some o) (hd : ∀ j ∈ deps o, L.getD j false = true)
    {t : Nat} (ht : t ∈ o.looksAt ops) : ∀ p ∈ pre, L.getD p.i true = false → p.d ≠ t := by
  intro q hq hql he
  obtain ⟨hqi, _, _, hqf, _⟩ := h.pres q hq hql
  rcases freeDst_spec hqf hi ho with h1 | h1
  · exact h1.1 (he ▸ ht)
  · exact getD_tf (mask_in hM h.closed i o ho hd _ h1) hql

theorem closed_set {L : Array Bool} (h : Closed ops L) {i : Nat} {o : Oper} (hi : i < ops.size) (ho : ops[i]? = some o) (hd : ∀ j ∈ deps o, L.getD j false = true) : Closed ops (L.setIfInBounds i true) := by
  have hs : i < L.size := by rw [h.size]; exact hi
  refine ⟨by simp [h.size], fun k q hq hk j hj => ?_⟩
  rw [getD_set hs] at hk ⊢
  split
  · rfl
  · by_cases e : k = i
    · subst e
      rw [ho] at hq; cases hq
      exact hd j hj
    · rw [if_neg e] at hk; exact h.deps k q hq hk j hj

theorem put_getD {a : Act} {d t : Nat} {v : Value} (h : d < a.tmps.size) : (a.put (some d) v).tmps.getD t undef = if t = d then v else a.tmps.getD t undef := by
  simp only [Act.put, Array.getD_eq_getD_getElem?]
  by_cases e : t = d
  · subst e; simp [h]
  · rw [Array.getElem?_setIfInBounds_ne (fun h => e h.symm)]; simp [e]

/-- one of those that were told of ahead comes now -/
theorem Inv.turn (hM : masksOk ops M = true) (hsel : Plain ops) {sp : List Nat} {pre : List Pre} {fr : Frm} {L : Array Bool} {a : Act} {w : World} {fuel : Nat}
    (h : Inv P n ops M sp pre fr L a w (fuel + 1)) {p : Pre} (hp : p ∈ pre) (hr : p.i ∈ Region.ready .any ops L) {K : Act → World → Prop}
    (hK : ∀ a', Inv P n ops M sp pre fr (L.setIfInBounds p.i true) a' w fuel → K a' w) : wpOp P ops Q p.i K a w := by
  obtain ⟨hi, hl, o, ho, hd⟩ := (ready_mem h.closed.size).1 hr
  obtain ⟨_, hget, hdn, hfree, hall⟩ := h.pres p hp hl
  obtain ⟨hdst, hpure⟩ := hall o ho
  obtain ⟨c, hc, hsz, hag⟩ := h.fill
  have hlook : ∀ t, t ∈ o.looksAt ops → c.tmps.getD t undef = a.tmps.getD t undef := fun t ht => hag t (h.looks hM hi ho hd ht)
  have hLs : p.i < L.size := by rw [h.closed.size]; exact hi
  have hdlt : p.d < a.tmps.size := by rw [h.asize]; have := Nat.le_of_ble_eq_true hdn; omega
  have hinv : Inv P n ops M sp pre fr (L.setIfInBounds p.i true) (a.put (some p.d) p.v) w fuel := by
    refine ⟨closed_set h.closed hi ho hd, ?_, ?_, by simp [Act.put, h.asize], by simp [Act.put, h.defers], ?_, ?_, count_set hi h.closed.size hl h.fuel⟩
    · intro k hk; rw [getD_set hLs]; split
      · rfl
      · exact h.spin k hk
    · intro k hk hLk
      rw [getD_set hLs] at hLk
      by_cases e : k = p.i
      · rw [e, has_iff]; exact .inr (List.mem_map.2 ⟨p, hp, rfl⟩)
      · rw [if_neg e] at hLk; exact h.within k hk hLk
    · intro t v hv
      rw [put_getD hdlt]
      by_cases e : t = p.d
      · subst e
        rw [hget] at hv; cases hv
        exact .inr (if_pos rfl)
      · rw [if_neg e]
        rcases h.vals t v hv with ⟨q, hq, hql, hqd⟩ | hval
        · refine .inl ⟨q, hq, ?_, hqd⟩
          rw [getD_set hLs, if_neg ?_]
          · exact hql
          · intro e'
            obtain ⟨hqi, hqg, _, hqf, hqa⟩ := h.pres q hq hql
            have : some q.d = some p.d := by rw [← (hqa o (e' ▸ ho)).1, hdst]
            exact e (by rw [← hqd]; exact Option.some.inj this)
        · exact .inr hval
    · intro q hq hql
      rw [getD_set hLs] at hql
      split at hql
      · simp at hql
      · exact h.pres q hq hql
  have hK' := hK _ hinv
  unfold wpOp
  simp only [ho]
  rcases hpure c hc with ⟨hw1, hrun⟩ | ⟨hw1, hv⟩
  · rw [wanted_same hsz hlook, hw1, if_pos rfl]
    refine .inl ?_
    unfold Oper.wp
    rw [execOp_congr o (hsel p.i o ho) (eval_same hlook), hrun]
    simp only [Oper.upon, hdst]
    exact hK'
  · rw [wanted_same hsz hlook, hw1]
    simp only [Bool.false_eq_true, if_false, hdst]
    rw [← hv]; exact hK'

def Ok (P : Program) (n : Nat) (ops : Array Oper) (Q : Exit → Act → World → Prop) (M : List Nat) (sp : List Nat) (pre : List Pre) (fr : Frm) (w : World) : Prop :=
  ∀ fuel L a, Inv P n ops M sp pre fr L a w fuel → wpAny P .any ops Q fuel L a w

theorem Inv.none_left {sp : List Nat} {pre : List Pre} {fr : Frm} {L : Array Bool} {a : Act} {w : World} {fuel : Nat} (h : Inv P n ops M sp pre fr L a w fuel)
    (hall : ∀ i, i < ops.size → L.getD i true = true) : Knows n a fr :=
  ⟨h.asize, h.defers, fun t v hv => by
    rcases h.vals t v hv with ⟨p, hp, hl, _⟩ | hval
    · have := hall p.i (h.pres p hp hl).1
      rw [hl] at this; cases this
    · exact hval⟩

theorem count_zero {L : Array Bool} {n : Nat} (h : (List.range n).countP (fun j => !L.getD j true) ≤ 0) : ∀ i, i < n → L.getD i true = true := by
  intro i hi
  have h0 := List.countP_eq_zero.1 (Nat.le_zero.1 h) i (List.mem_range.2 hi)
  simpa using h0

theorem Ok.done (hM : masksOk ops M = true) (hsel : Plain ops) {sp : List Nat} {pre : List Pre} {fr : Frm} {H : List Asr} {w : World} (hall : (List.range ops.size).all (has sp (pre.map (·.i))) = true)
    (hw : Holds w H) (hq : To n (Q .normal) fr H) : Ok P n ops Q M sp pre fr w := by
  intro fuel
  induction fuel with
  | zero =>
    intro L a h
    have hno := count_zero h.fuel
    refine ⟨?_, hq a w (h.none_left hno) hw⟩
    cases hr : Region.ready .any ops L with
    | nil => rfl
    | cons x xs =>
      have : x ∈ Region.ready .any ops L := by rw [hr]; exact .head _
      obtain ⟨hx, hxl, _⟩ := (ready_mem h.closed.size).1 this
      rw [hno x hx] at hxl; cases hxl
  | succ fuel ih =>
    intro L a h
    refine ⟨fun hr => hq a w (h.none_left fun i hi => ?_) hw, fun i hi => ?_⟩
    · cases hb : L.getD i true with
      | true => rfl
      | false => exact absurd hr (ready_ne hM h.closed.size hi hb)
    · obtain ⟨hil, hl, o, ho, hd⟩ := (ready_mem h.closed.size).1 hi
      have hin := List.all_eq_true.1 hall i (List.mem_range.2 hil)
      rcases has_iff.1 hin with hs | hp
      · exact absurd hl (fun hl => getD_tf (h.spin i hs) hl)
      · obtain ⟨p, hp', rfl⟩ := List.mem_map.1 hp
        exact h.turn hM hsel hp' hi fun a' h' => ih _ a' h'

theorem Again.spec {e : Nat} {fr : Frm} {H : List Asr} : ∀ {l : List Pre}, Again P ops M n e fr H l → ∀ p ∈ l, (M.getD e 0).testBit p.i = false → ∀ o, ops[p.i]? = some o → ∀ w, Holds w H → PureG P ops o n fr w p.v
  | p :: l, h, q, hq, ht => by
    cases hq with
    | head =>
      have := h.1
      rw [ht] at this
      obtain ⟨o, ho, hp⟩ := this
      intro o' ho'
      rw [ho] at ho'; cases ho'
      exact hp
    | tail _ hq => exact Again.spec h.2 q hq ht

theorem push_get {fr : Frm} {d : Option Nat} {v : Value} {t : Nat} : fget (push fr d v) t = if d = some t then some v else fget fr t := by
  cases d with
  | none => simp [push]
  | some d =>
    simp only [push, fget, Option.some.injEq]
    cases hb : Nat.beq d t with
    | true => simp [Nat.eq_of_beq_eq_true hb]
    | false =>
      have : d ≠ t := fun e => by subst e; simp at hb
      simp [this]

/-- an operation that does something comes in its turn -/
theorem Inv.spine (hM : masksOk ops M = true) (hsel : Plain ops) {sp : List Nat} {pre : List Pre} {fr : Frm} {H : List Asr} {L : Array Bool} {a : Act} {w : World} {fuel : Nat}
    (h : Inv P n ops M sp pre fr L a w (fuel + 1)) (hw : Holds w H) {e : Nat} {o : Oper} {Φ : Value → List Asr → Prop} (ho : ops[e]? = some o) (hdst : dstOk n o.dst = true)
    (hbes : beside ops M e o.dst pre = true) (hwant : Want ops o n fr true) (hs : Step P o n fr H Φ) (hag : ∀ v H', Φ v H' → Again P ops M n e (push fr o.dst v) H' pre)
    (hr : e ∈ Region.ready .any ops L) {K : Act → World → Prop}
    (hK : ∀ a' w' v H', Φ v H' → Holds w' H' → Inv P n ops M (e :: sp) pre (push fr o.dst v) (L.setIfInBounds e true) a' w' fuel → K a' w') : wpOp P ops Q e K a w := by
  obtain ⟨hi, hl, o', ho', hd⟩ := (ready_mem h.closed.size).1 hr
  rw [ho] at ho'; cases ho'
  obtain ⟨c, hc, hsz, hagr⟩ := h.fill
  have hlook : ∀ t, t ∈ o.looksAt ops → c.tmps.getD t undef = a.tmps.getD t undef := fun t ht => hagr t (h.looks hM hi ho hd ht)
  have hLs : e < L.size := by rw [h.closed.size]; exact hi
  unfold wpOp
  simp only [ho]
  rw [wanted_same hsz hlook, hwant c hc, if_pos rfl]
  refine .inl ?_
  unfold Oper.wp
  rw [execOp_congr o (hsel e o ho) (eval_same hlook)]
  refine (hs c w hc hw).upon ?_
  rintro v w' ⟨H', hφ, hw'⟩
  refine hK _ w' v H' hφ hw' ?_
  refine ⟨closed_set h.closed hi ho hd, ?_, ?_, ?_, ?_, ?_, ?_, count_set hi h.closed.size hl h.fuel⟩
  · intro k hk; rw [getD_set hLs]; split
    · rfl
    · rename_i hne
      cases hk with
      | head => exact absurd rfl hne
      | tail _ hk => exact h.spin k hk
  · intro k hk hLk
    rw [getD_set hLs] at hLk
    by_cases e' : k = e
    · rw [e', has_iff]; exact .inl (.head _)
    · rw [if_neg e'] at hLk
      rcases has_iff.1 (h.within k hk hLk) with h1 | h1
      · exact has_iff.2 (.inl (.tail _ h1))
      · exact has_iff.2 (.inr h1)
  · cases hdd : o.dst with
    | none => simp [Act.put, h.asize]
    | some d => simp [Act.put, h.asize]
  · cases hdd : o.dst with
    | none => simp [Act.put, h.defers]
    | some d => simp [Act.put, h.defers]
  · intro t u hu
    rw [push_get] at hu
    cases hdd : o.dst with
    | none =>
      rw [hdd] at hu
      simp only [reduceCtorEq, if_false] at hu
      rcases h.vals t u hu with ⟨q, hq, hql, hqd⟩ | hval
      · refine .inl ⟨q, hq, ?_, hqd⟩
        rw [getD_set hLs, if_neg ?_]
        · exact hql
        · intro e'
          have := (h.pres q hq hql).2.2.2.2 o (e' ▸ ho)
          rw [hdd] at this; cases this.1
      · exact .inr (by simpa [Act.put] using hval)
    | some d =>
      rw [hdd] at hu hdst
      have hdn : d + 1 ≤ n := Nat.le_of_ble_eq_true hdst
      have hdlt : d < a.tmps.size := by rw [h.asize]; exact hdn
      rw [put_getD hdlt]
      by_cases e' : d = t
      · subst e'
        simp only [if_true, Option.some.injEq] at hu
        exact .inr (by rw [if_pos rfl]; exact hu)
      · rw [if_neg (by simpa using e')] at hu
        rw [if_neg (fun h => e' h.symm)]
        rcases h.vals t u hu with ⟨q, hq, hql, hqd⟩ | hval
        · refine .inl ⟨q, hq, ?_, hqd⟩
          rw [getD_set hLs, if_neg ?_]
          · exact hql
          · intro e''
            have := (h.pres q hq hql).2.2.2.2 o (e'' ▸ ho)
            rw [hdd] at this
            exact e' ((Option.some.inj this.1).trans hqd)
        · exact .inr hval
  · intro q hq hql
    rw [getD_set hLs] at hql
    split at hql
    · simp at hql
    · rename_i hne
      obtain ⟨h1, h2, h3, h4, h5⟩ := h.pres q hq hql
      have hnt : (M.getD e 0).testBit q.i = false := by
        cases hb : (M.getD e 0).testBit q.i with
        | false => rfl
        | true => exact (getD_tf (mask_in hM h.closed e o ho hd _ hb) hql).elim
      refine ⟨h1, ?_, h3, h4, fun oq hoq => ⟨(h5 oq hoq).1, (hag v H' hφ).spec q hq hnt oq hoq w' hw'⟩⟩
      rw [push_get, if_neg ?_]
      · exact h2
      · intro e'
        rw [e'] at hbes
        have := List.all_eq_true.1 hbes q hq
        rw [hnt] at this
        simp at this

theorem Dr.ok (hM : masksOk ops M = true) (hsel : Plain ops) {sp : List Nat} {pre : List Pre} {fr : Frm} {H : List Asr} (d : Dr P n ops Q M sp pre fr H) :
    ∀ w, Holds w H → Ok P n ops Q M sp pre fr w := by
  induction d with
  | done hall hq => exact fun w hw => Ok.done hM hsel hall hw hq
  | @pure sp pre fr H i d o v ho hd hn hfresh hnew hdeps hfree hp _ ih =>
    intro w hw fuel L a h
    refine ih w hw fuel L a ?_
    have hil : L.getD i true = false ∧ i < ops.size := by
      have hi : i < ops.size := by
        rcases Nat.lt_or_ge i ops.size with h | h
        · exact h
        · simp [Array.getElem?_eq_none h] at ho
      refine ⟨?_, hi⟩
      cases hb : L.getD i true with
      | false => rfl
      | true => have := h.within i hi hb; rw [hnew] at this; cases this
    refine ⟨h.closed, h.spin, ?_, h.asize, h.defers, ?_, ?_, h.fuel⟩
    · intro k hk hl
      rcases has_iff.1 (h.within k hk hl) with h1 | h1
      · exact has_iff.2 (.inl h1)
      · exact has_iff.2 (.inr (.tail _ h1))
    · intro t u hu
      simp only [fget] at hu
      cases hb : Nat.beq d t with
      | true =>
        exact .inl ⟨⟨i, d, v⟩, .head _, hil.1, Nat.eq_of_beq_eq_true hb⟩
      | false =>
        rw [hb] at hu
        rcases h.vals t u hu with ⟨q, hq, hql, hqd⟩ | hval
        · exact .inl ⟨q, .tail _ hq, hql, hqd⟩
        · exact .inr hval
    · intro q hq hql
      have hsub : ∀ a, Knows n a ((d, v) :: fr) → Knows n a fr := fun a ha => ⟨ha.size, ha.defers, fun t u hu => ha.val t u (by
        simp only [fget]
        cases hb : Nat.beq d t with
        | true => have := Nat.eq_of_beq_eq_true hb; subst this; rw [hfresh] at hu; cases hu
        | false => exact hu)⟩
      cases hq with
      | head =>
        refine ⟨hil.2, by simp [fget], hn, hfree, fun o' ho' => ?_⟩
        rw [ho] at ho'; cases ho'
        exact ⟨hd, fun a ha => hp w hw a (hsub a ha)⟩
      | tail _ hq =>
        obtain ⟨h1, h2, h3, h4, h5⟩ := h.pres q hq hql
        refine ⟨h1, ?_, h3, h4, fun o' ho' => ⟨(h5 o' ho').1, fun a ha => (h5 o' ho').2 a (hsub a ha)⟩⟩
        simp only [fget]
        cases hb : Nat.beq d q.d with
        | true => have := Nat.eq_of_beq_eq_true hb; rw [← this, hfresh] at h2; cases h2
        | false => exact h2
  | @ex sp pre fr H α H' hx _ ih =>
    intro w hw
    obtain ⟨x, hx⟩ := hx w hw
    exact ih x w hx
  | @step1 sp pre fr H e o Φ hav ho hdst hbes hwant hs hag _ ih =>
    intro w hw fuel
    induction fuel with
    | zero =>
      intro L a h
      have hno := count_zero h.fuel
      have he : e ∈ avail ops sp (pre.map (·.i)) := by rw [hav]; exact .head _
      simp only [avail, List.mem_filter, List.mem_range, Bool.and_eq_true, Bool.not_eq_true'] at he
      have := h.within e he.1 (hno e he.1)
      rw [he.2.1] at this; cases this
    | succ fuel ihf =>
      intro L a h
      refine ⟨fun hr => ?_, fun i hi => ?_⟩
      · have he : e ∈ avail ops sp (pre.map (·.i)) := by rw [hav]; exact .head _
        simp only [avail, List.mem_filter, List.mem_range, Bool.and_eq_true, Bool.not_eq_true'] at he
        have hl : L.getD e true = false := by
          cases hb : L.getD e true with
          | false => rfl
          | true => have := h.within e he.1 hb; rw [he.2.1] at this; cases this
        exact absurd hr (ready_ne hM h.closed.size he.1 hl)
      · obtain ⟨hil, hl, oi, hoi, hd⟩ := (ready_mem h.closed.size).1 hi
        by_cases hin : has sp (pre.map (·.i)) i = true
        · rcases has_iff.1 hin with h1 | h1
          · exact (getD_tf (h.spin i h1) hl).elim
          · obtain ⟨p, hp, rfl⟩ := List.mem_map.1 h1
            exact h.turn hM hsel hp hi fun a' h' => ihf _ a' h'
        · have hmem : i ∈ avail ops sp (pre.map (·.i)) := by
            simp only [avail, List.mem_filter, List.mem_range, Bool.and_eq_true, Bool.not_eq_true', hoi, List.all_eq_true]
            exact ⟨hil, Bool.eq_false_iff.2 hin, fun j hj => by
              have hLj := hd j hj
              have hjl : j < ops.size := by
                rcases Nat.lt_or_ge j L.size with h' | h'
                · rw [← h.closed.size]; exact h'
                · simp [Array.getD, Nat.not_lt.2 h'] at hLj
              have hjL : j < L.size := by rw [h.closed.size]; exact hjl
              exact h.within j hjl (by simp only [Array.getD, hjL, dif_pos] at hLj ⊢; exact hLj)⟩
          rw [hav] at hmem
          obtain rfl : i = e := by simpa using hmem
          exact h.spine hM hsel hw ho hdst hbes hwant hs hag hi fun a' w' v H' hφ hw' h' => ih v H' hφ w' hw' _ _ a' h'
  | @step2 sp pre fr H e f o q Φ Ψ hav ho hdst hbes hwant hs hag _ ho2 hdst2 hbes2 hwant2 hs2 hag2 _ ih ih2 =>
    intro w hw fuel
    induction fuel with
    | zero =>
      intro L a h
      have hno := count_zero h.fuel
      have he : e ∈ avail ops sp (pre.map (·.i)) := by rw [hav]; exact .head _
      simp only [avail, List.mem_filter, List.mem_range, Bool.and_eq_true, Bool.not_eq_true'] at he
      have := h.within e he.1 (hno e he.1)
      rw [he.2.1] at this; cases this
    | succ fuel ihf =>
      intro L a h
      refine ⟨fun hr => ?_, fun i hi => ?_⟩
      · have he : e ∈ avail ops sp (pre.map (·.i)) := by rw [hav]; exact .head _
        simp only [avail, List.mem_filter, List.mem_range, Bool.and_eq_true, Bool.not_eq_true'] at he
        have hl : L.getD e true = false := by
          cases hb : L.getD e true with
          | false => rfl
          | true => have := h.within e he.1 hb; rw [he.2.1] at this; cases this
        exact absurd hr (ready_ne hM h.closed.size he.1 hl)
      · obtain ⟨hil, hl, oi, hoi, hd⟩ := (ready_mem h.closed.size).1 hi
        by_cases hin : has sp (pre.map (·.i)) i = true
        · rcases has_iff.1 hin with h1 | h1
          · exact (getD_tf (h.spin i h1) hl).elim
          · obtain ⟨p, hp, rfl⟩ := List.mem_map.1 h1
            exact h.turn hM hsel hp hi fun a' h' => ihf _ a' h'
        · have hmem : i ∈ avail ops sp (pre.map (·.i)) := by
            simp only [avail, List.mem_filter, List.mem_range, Bool.and_eq_true, Bool.not_eq_true', hoi, List.all_eq_true]
            exact ⟨hil, Bool.eq_false_iff.2 hin, fun j hj => by
              have hLj := hd j hj
              have hjl : j < ops.size := by
                rcases Nat.lt_or_ge j L.size with h' | h'
                · rw [← h.closed.size]; exact h'
                · simp [Array.getD, Nat.not_lt.2 h'] at hLj
              have hjL : j < L.size := by rw [h.closed.size]; exact hjl
              exact h.within j hjl (by simp only [Array.getD, hjL, dif_pos] at hLj ⊢; exact hLj)⟩
          rw [hav] at hmem
          simp only [List.mem_cons, List.not_mem_nil, or_false] at hmem
          rcases hmem with rfl | rfl
          · exact h.spine hM hsel hw ho hdst hbes hwant hs hag hi fun a' w' v H' hφ hw' h' => ih v H' hφ w' hw' _ _ a' h'
          · exact h.spine hM hsel hw ho2 hdst2 hbes2 hwant2 hs2 hag2 hi fun a' w' v H' hφ hw' h' => ih2 v H' hφ w' hw' _ _ a' h'

theorem Holds.drawn {w : World} {H : List Asr} (h : Holds w H) (n : Nat) : Holds { w with drawn := n } H := by
  obtain ⟨I, O, h1, h2, h3, hs⟩ := h
  exact ⟨I, O, h1, h2, h3, Sat.mono (fun _ _ x => x) hs (fun _ _ x => x) ⟨rfl, rfl, rfl, Nat.le_refl _, fun _ _ h => h, fun _ _ _ => rfl⟩⟩

def plainB (ops : Array Oper) : Bool := ops.toList.all fun o => match o.op with
  | .select _ _ => false
  | _ => true
theorem plain_of (h : plainB ops = true) : Plain ops := by
  intro i o ho cs b e
  have hm : o ∈ ops.toList := by
    rw [Array.mem_toList_iff]; exact Array.mem_of_getElem? ho
  have := List.all_eq_true.1 h o hm
  rw [e] at this
  cases this

theorem To.draws {id : Nat} {fr : Frm} {H : List Asr} (M : List Nat) (hm : P.follows .mixedOrders = true) (hM : masksOk ops M = true) (hp : plainB ops = true)
    (d : Dr P n ops Q M [] [] fr H) : To n ((Code.region id ops true).wp P Q) fr H := by
  intro a w ha hw
  refine wp_region_any hm ?_
  refine d.ok hM (plain_of hp) _ (hw.drawn _) _ _ _ ⟨⟨by simp, ?_⟩, by simp, ?_, ha.size, ha.defers, fun t v hv => .inr (ha.val t v hv), by simp, ?_⟩
  · intro i o ho hl
    have hi : i < ops.size := by
      rcases Nat.lt_or_ge i ops.size with h | h
      · exact h
      · simp [Array.getElem?_eq_none h] at ho
    simp [Array.getD, hi] at hl
  · intro i hi hl
    simp [Array.getD, hi] at hl
  · refine Nat.le_trans List.countP_le_length ?_
    simp
end
end Go.WG

set_option linter.unusedVariables false
set_option linter.unusedSimpArgs false
namespace Go.WG
open Go

/-- a text out of its bytes -/
abbrev Str := List UInt8
@[reducible] def S (l : Str) : ByteArray := ⟨⟨l⟩⟩

/-- cells of one's own -/
def pt (b o : Nat) (vs : List Value) : Asr where
  holds w I O := ∀ j (hj : j < vs.length), O b (o + j) ∧ at_ w b (o + j) = .cell vs[j] false
  mono h _ hO hk j hj := ⟨hO _ _ (h j hj).1, (hk.same _ _ (.inr (h j hj).1)).trans (h j hj).2⟩
/-- cells that never change any more -/
def ro (b o : Nat) (vs : List Value) : Asr where
  holds w I O := ∀ j (hj : j < vs.length), I b (o + j) ∧ ∃ fl, at_ w b (o + j) = .cell vs[j] fl
  mono h hI _ hk j hj := ⟨hI _ _ (h j hj).1, (h j hj).2.imp fun _ hf => (hk.same _ _ (.inl (h j hj).1)).trans hf⟩

/-- cells, of either make -/
inductive Lies : Asr → Nat → Nat → List Value → Prop
  | pt {b o vs} : Lies (pt b o vs) b o vs
  | ro {b o vs} : Lies (ro b o vs) b o vs

theorem at_cell {w : World} {b o : Nat} {v : Value} {fl : Bool} (h : at_ w b o = .cell v fl) : w.cell? ⟨b, o, none⟩ = some v ∧ w.frozen? ⟨b, o, none⟩ = fl := by
  unfold at_ atObj at h
  cases hb : w.heap[b]? with
  | none => rw [hb] at h; cases h
  | some x =>
    rw [hb] at h
    cases x with
    | cells c t f =>
      obtain ⟨lo, hi⟩ := f
      simp only at h
      cases hc : c[o]? with
      | none => rw [hc] at h; cases h
      | some u =>
        rw [hc] at h
        simp only [Seen.cell.injEq] at h
        simp [World.cell?, World.frozen?, hb, hc, h.1, ← h.2]
    | _ => cases h

theorem Lies.cells {A : Asr} {b o : Nat} {vs : List Value} (l : Lies A b o vs) {w : World} {I O : Fp} (h : A.holds w I O) : ∀ j (hj : j < vs.length), w.cell? ⟨b, o + j, none⟩ = some vs[j] := by
  cases l with
  | pt => exact fun j hj => (at_cell (h j hj).2).1
  | ro => exact fun j hj => let ⟨_, hf⟩ := (h j hj).2; (at_cell hf).1

/-- a part of a row -/
inductive Sub : List Value → Nat → List Value → Prop
  | z {vs} : Sub vs 0 []
  | t {v vs us} : Sub vs 0 us → Sub (v :: vs) 0 (v :: us)
  | d {v vs j us} : Sub vs j us → Sub (v :: vs) (j + 1) us
theorem Sub.get {vs us : List Value} {j : Nat} (h : Sub vs j us) : j + us.length ≤ vs.length + (if us = [] then j else 0) ∧ ∀ k (hk : k < us.length), vs[j + k]? = some us[k] := by
  induction h with
  | z => exact ⟨by simp, by simp⟩
  | @t v vs us _ ih =>
    obtain ⟨h1, h2⟩ := ih
    refine ⟨by simp at h1 ⊢; omega, fun k hk => ?_⟩
    cases k with
    | zero => simp
    | succ k =>
      have := h2 k (by simpa using hk)
      simp only [Nat.zero_add] at this ⊢
      simpa using this
  | @d v vs j us _ ih =>
    obtain ⟨h1, h2⟩ := ih
    refine ⟨?_, fun k hk => ?_⟩
    · split
      · simp_all
      · simp_all; omega
    · have := h2 k hk
      rw [show j + 1 + k = (j + k) + 1 by omega]
      simpa using this

def aggD : TypeDesc → Bool
  | .struct _ | .array _ _ => true
  | _ => false
/-- What a type is: whether it is made of parts; how many cells it has. -/
structure Ty (P : Program) (t : TypeId) (agg : Bool) (size : Nat) : Prop where
  desc : (P.underlying t).map aggD = some agg
  size : (P.info? t).map (·.size) = some size

section
variable {P : Program} {n : Nat} {fr : Frm} {H G : List Asr} {o : Oper}

theorem Ty.isAgg {t : TypeId} {agg : Bool} {size : Nat} (h : Ty P t agg size) (w : World) : (isAgg t).run P w = .ok agg w := by
  have hd := h.desc
  cases hu : P.underlying t with
  | none => rw [hu] at hd; cases hd
  | some d =>
    rw [hu] at hd
    simp only [Option.map_some, Option.some.injEq] at hd
    subst hd
    unfold Go.isAgg
    rw [Sem.run_bind, run_underlying hu, Result.andThen_ok]
    cases d <;> rfl
theorem Ty.sizeOf {t : TypeId} {agg : Bool} {size : Nat} (h : Ty P t agg size) (w : World) : (sizeOf t).run P w = .ok size w := by
  have hd := h.size
  cases hi : P.info? t with
  | none => rw [hi] at hd; cases hd
  | some i =>
    rw [hi] at hd
    simp only [Option.map_some, Option.some.injEq] at hd
    subst hd
    simp [Go.sizeOf, typeInfo, program, hi, Sem.run_bind, Sem.run]

/-- the value of some cells -/
def vof (agg : Bool) (us : List Value) : Value := match agg, us with
  | false, [u] => u
  | _, us => .agg ⟨us⟩

theorem loadCellsFrom_run (P : Program) {w : World} {b m : Nat} : ∀ (us : List Value) (i : Nat) (acc : Array Value), (∀ k (hk : k < us.length), w.cell? ⟨b, m + (i + k), none⟩ = some us[k]) →
    (loadCellsFrom ⟨b, m, none⟩ i us.length acc).run P w = .ok (acc ++ us.toArray) w
  | [], i, acc, _ => by simp [loadCellsFrom, Sem.run]
  | u :: us, i, acc, h => by
    have h0 := h 0 (by simp)
    have ih := loadCellsFrom_run P us (i + 1) (acc.push u) (fun k hk => by
      have := h (k + 1) (by simpa using hk)
      rw [show i + 1 + k = i + (k + 1) by omega]; simpa using this)
    have ha : (Addr.add ⟨b, m, none⟩ i) = ⟨b, m + (i + 0), none⟩ := by rw [Addr.add_lit]; rfl
    simp only [List.length_cons, loadCellsFrom, Sem.run_bind, run_load, ha, h0, Result.andThen_ok, List.getElem_cons_zero]
    rw [ih]
    simp

theorem loadVar_run {w : World} {t : TypeId} {agg : Bool} {size : Nat} (ht : Ty P t agg size) {b m : Nat} {us : List Value} (hl : us.length = size)
    (h : ∀ k (hk : k < us.length), w.cell? ⟨b, m + k, none⟩ = some us[k]) (ha : agg = false → us.length = 1) : (loadVar t ⟨b, m, none⟩).run P w = .ok (vof agg us) w := by
  unfold loadVar
  rw [Sem.run_bind, ht.isAgg, Result.andThen_ok]
  cases agg with
  | true =>
    rw [if_pos rfl, Sem.run_bind, ht.sizeOf, Result.andThen_ok, Sem.run_bind, loadCells, ← hl, loadCellsFrom_run P us 0 #[] (by simpa using h)]
    cases us with
    | nil => simp [vof]
    | cons u us => simp [vof]
  | false =>
    have h1 := ha rfl
    match us, h1 with
    | [u], _ =>
      have h0 := h 0 (by simp)
      rw [if_neg (by simp), run_load, show (⟨b, m, none⟩ : Addr) = ⟨b, m + 0, none⟩ from rfl, h0]
      rfl

/-- load: out of cells at hand. 'm' is the place, 'j' where it is in the row. -/
theorem pe_load {A : Asr} {t : TypeId} {x : Operand} {agg : Bool} {size b m r j : Nat} {vs us : List Value} {v : Value} (hop : o.op = .load t x) (hx : ev fr x = some (.pointer (some ⟨b, m, none⟩)))
    (hp : Pull A H G) (hl : Lies A b r vs) (hm : r + j = m) (hs : Sub vs j us) (ht : Ty P t agg size) (hz : Nat.beq us.length size = true) (ha : agg = false → us.length = 1) (hv : vof agg us = v) :
    PureEval P o n fr H v := by
  intro a w hk hw
  obtain ⟨I, O1, O2, _, _, _, _, _, _, hA, _⟩ := (hp.imp w hw).upd
  have hc := hl.cells hA
  subst hm
  have hget := hs.get
  have hrun := loadVar_run (P := P) (w := w) ht (b := b) (m := r + j) (us := us) (Nat.eq_of_beq_eq_true hz) (fun k hk => by
    have h1 := hget.2 k hk
    have hlt : j + k < vs.length := by
      rcases Nat.lt_or_ge (j + k) vs.length with h | h
      · exact h
      · rw [List.getElem?_eq_none h] at h1; cases h1
    have h2 := hc (j + k) hlt
    rw [List.getElem?_eq_getElem hlt] at h1
    rw [Nat.add_assoc, h2, h1]) ha
  subst hv
  simp only [execOp, hop, hk.eval hx, Instr.loadAt, Instr.sureAddr, Sem.run_bind, Sem.run_pure, Result.andThen_ok, hrun]

theorem pe_move {x : Operand} {v : Value} (hop : o.op = .move x) (hx : ev fr x = some v) : PureEval P o n fr H v := by
  intro a w hk hw; simp [execOp, hop, hk.eval hx, Sem.run]
theorem pe_assign {x : Operand} {v : Value} (hop : o.op = .assign x) (hx : ev fr x = some v) : PureEval P o n fr H v := by
  intro a w hk hw; simp [execOp, hop, hk.eval hx, Sem.run]
theorem pe_pick {c x y : Operand} {t : Bool} {z : Value} (hop : o.op = .pick c x y) (hc : ev fr c = some (.bool t)) (hx : ev fr (if t then x else y) = some z) : PureEval P o n fr H z := by
  intro a w hk hw
  have := hk.eval hx
  cases t <;> simp at this <;> simp [execOp, hop, hk.eval hc, Sem.run_bind, Sem.run, asBool, this]
theorem pe_nil {x : Operand} {a : Addr} (hop : o.op = .nilCheck x) (hx : ev fr x = some (.pointer (some a))) : PureEval P o n fr H (.pointer (some a)) := by
  intro a w hk hw; simp [execOp, hop, hk.eval hx, Sem.run]
theorem pe_nilFunc {x : Operand} {f : FuncId} {p q : Array Value} (hop : o.op = .nilCheck x) (hx : ev fr x = some (.func (.func f) p q)) : PureEval P o n fr H (.func (.func f) p q) := by
  intro a w hk hw; simp [execOp, hop, hk.eval hx, Sem.run]
theorem pe_nilIface {x : Operand} {t : TypeId} {u : Value} (hop : o.op = .nilCheck x) (hx : ev fr x = some (.iface t u)) : PureEval P o n fr H (.iface t u) := by
  intro a w hk hw; simp [execOp, hop, hk.eval hx, Sem.run]

/-- whole numbers -/
theorem pe_int {bop : BinOp} {t ty : TypeId} {x y : Operand} {k : IntKind} {p q : Int} {v : Value} (hop : o.op = .binOp bop t x y ty) (hx : ev fr x = some (.int k p)) (hy : ev fr y = some (.int k q))
    (hv : ∀ w, (binOp bop t (.int k p) (.int k q)).run P w = .ok v w) : PureEval P o n fr H v := by
  intro a w hk hw; simp [execOp, hop, hk.eval hx, hk.eval hy, Sem.run_bind, hv, Sem.run, eqGuard_at_int]
variable {t : TypeId} {k : IntKind} {p q : Int}
theorem bi_add (w : World) : (binOp .add t (.int k p) (.int k q)).run P w = .ok (.int k (k.wrap (p + q))) w := by simp [binOp, Op.intArith, Sem.run]
theorem bi_sub (w : World) : (binOp .sub t (.int k p) (.int k q)).run P w = .ok (.int k (k.wrap (p - q))) w := by simp [binOp, Op.intArith, Sem.run]
theorem bi_mul (w : World) : (binOp .mul t (.int k p) (.int k q)).run P w = .ok (.int k (k.wrap (p * q))) w := by simp [binOp, Op.intArith, Sem.run]
theorem bi_quo (hq : q ≠ 0) (w : World) : (binOp .quo t (.int k p) (.int k q)).run P w = .ok (.int k (k.wrap (p.tdiv q))) w := by simp [binOp, Op.intDiv, Sem.run, hq]
theorem bi_rem (hq : q ≠ 0) (w : World) : (binOp .rem t (.int k p) (.int k q)).run P w = .ok (.int k (p.tmod q)) w := by simp [binOp, Op.intDiv, Sem.run, hq]
theorem bi_eql (w : World) : (binOp .eql t (.int k p) (.int k q)).run P w = .ok (.bool (p == q)) w := by simp [binOp, Op.intCmp, Sem.run]
theorem bi_neq (w : World) : (binOp .neq t (.int k p) (.int k q)).run P w = .ok (.bool (p != q)) w := by simp [binOp, Op.intCmp, Sem.run]
theorem bi_lss (w : World) : (binOp .lss t (.int k p) (.int k q)).run P w = .ok (.bool (decide (p < q))) w := by simp [binOp, Op.intCmp, Sem.run]
theorem bi_leq (w : World) : (binOp .leq t (.int k p) (.int k q)).run P w = .ok (.bool (decide (p ≤ q))) w := by simp [binOp, Op.intCmp, Sem.run]
theorem bi_gtr (w : World) : (binOp .gtr t (.int k p) (.int k q)).run P w = .ok (.bool (decide (p > q))) w := by simp [binOp, Op.intCmp, Sem.run]
theorem bi_geq (w : World) : (binOp .geq t (.int k p) (.int k q)).run P w = .ok (.bool (decide (p ≥ q))) w := by simp [binOp, Op.intCmp, Sem.run]
def iand (k : IntKind) (p q : Int) : Int := k.wrap (BitVec.ofInt k.bits p &&& BitVec.ofInt k.bits q).toNat
def ior (k : IntKind) (p q : Int) : Int := k.wrap (BitVec.ofInt k.bits p ||| BitVec.ofInt k.bits q).toNat
def ixor (k : IntKind) (p q : Int) : Int := k.wrap (BitVec.ofInt k.bits p ^^^ BitVec.ofInt k.bits q).toNat
theorem bi_and (w : World) : (binOp .and t (.int k p) (.int k q)).run P w = .ok (.int k (iand k p q)) w := by simp [binOp, Op.intBits, Sem.run, iand]
theorem bi_or (w : World) : (binOp .or t (.int k p) (.int k q)).run P w = .ok (.int k (ior k p q)) w := by simp [binOp, Op.intBits, Sem.run, ior]
theorem bi_xor (w : World) : (binOp .xor t (.int k p) (.int k q)).run P w = .ok (.int k (ixor k p q)) w := by simp [binOp, Op.intBits, Sem.run, ixor]
/-- shifts -/
theorem pe_shl {ty : TypeId} {x y : Operand} {k' : IntKind} (hop : o.op = .binOp .shl t x y ty) (hx : ev fr x = some (.int k p)) (hy : ev fr y = some (.int k' q)) (hq : ¬ q < 0) :
    PureEval P o n fr H (.int k (k.wrap (p * 2 ^ (min q.toNat k.bits)))) := by
  intro a w hk hw; simp [execOp, hop, hk.eval hx, hk.eval hy, Sem.run_bind, Sem.run, eqGuard_at_int, binOp, Op.shift, hq]
theorem pe_shr {ty : TypeId} {x y : Operand} {k' : IntKind} (hop : o.op = .binOp .shr t x y ty) (hx : ev fr x = some (.int k p)) (hy : ev fr y = some (.int k' q)) (hq : ¬ q < 0) :
    PureEval P o n fr H (.int k (p.fdiv (2 ^ (min q.toNat k.bits)))) := by
  intro a w hk hw; simp [execOp, hop, hk.eval hx, hk.eval hy, Sem.run_bind, Sem.run, eqGuard_at_int, binOp, Op.shift, hq]
theorem pe_not {x : Operand} {b : Bool} (hop : o.op = .unOp .not t x) (hx : ev fr x = some (.bool b)) : PureEval P o n fr H (.bool (!b)) := by
  intro a w hk hw; simp [execOp, hop, hk.eval hx, Sem.run_bind, Sem.run, Op.unary]
theorem pe_neg {x : Operand} (hop : o.op = .unOp .neg t x) (hx : ev fr x = some (.int k p)) : PureEval P o n fr H (.int k (k.wrap (0 - p))) := by
  intro a w hk hw; simp [execOp, hop, hk.eval hx, Sem.run_bind, Sem.run, Op.unary, Op.intArith]
theorem pe_conv {s d : TypeId} {x : Operand} {k' : IntKind} (hop : o.op = .convert s d x) (hx : ev fr x = some (.int k p)) (hs : P.underlying s = some (.int k)) (hd : P.underlying d = some (.int k')) :
    PureEval P o n fr H (.int k' (k'.wrap p)) := by
  intro a w hk hw; simp [execOp, hop, hk.eval hx, Sem.run_bind, Sem.run, convert, run_underlying hs, run_underlying hd, Conv.intToInt]
theorem rq_bool {t : TypeId} {b c : Bool} (d : Nat) (hu : P.underlying t = some .bool) (w : World) : (Op.equalIn (d + 1) t (.bool b) (.bool c)).run P w = .ok (b == c) w := by
  unfold Op.equalIn; rw [Sem.run_bind, run_underlying hu]; rfl
theorem rq_ptr {t e : TypeId} {b : Option Addr} (d : Nat) (hu : P.underlying t = some (.pointer e)) (w : World) : (Op.equalIn (d + 1) t (.pointer b) (.pointer none)).run P w = .ok b.isNone w := by
  unfold Op.equalIn; rw [Sem.run_bind, run_underlying hu]; cases b <;> rfl
theorem pe_eq {t ty : TypeId} {x y : Operand} {u v : Value} {b : Bool} (hop : o.op = .binOp .eql t x y ty) (hx : ev fr x = some u) (hy : ev fr y = some v)
    (hg : eqGuard .eql t x y u v = pure ()) (hb : binOp .eql t u v = (do pure (.bool (← Op.equal t u v)))) (hr : ∀ d w, (Op.equalIn (d + 1) t u v).run P w = .ok b w) : PureEval P o n fr H (.bool b) := by
  intro a w hk hw
  have := hr 9999 w
  simp only [execOp, hop, hk.eval hx, hk.eval hy, hg, hb, Sem.run_bind, Sem.run_pure, Result.andThen_ok, Op.equal, Op.maxDepth]
  rw [show (10000 : Nat) = 9999 + 1 from rfl, this]
  rfl
theorem pe_ne {t ty : TypeId} {x y : Operand} {u v : Value} {b : Bool} (hop : o.op = .binOp .neq t x y ty) (hx : ev fr x = some u) (hy : ev fr y = some v)
    (hg : eqGuard .neq t x y u v = pure ()) (hb : binOp .neq t u v = (do pure (.bool (!(← Op.equal t u v))))) (hr : ∀ d w, (Op.equalIn (d + 1) t u v).run P w = .ok b w) : PureEval P o n fr H (.bool (!b)) := by
  intro a w hk hw
  have := hr 9999 w
  simp only [execOp, hop, hk.eval hx, hk.eval hy, hg, hb, Sem.run_bind, Sem.run_pure, Result.andThen_ok, Op.equal, Op.maxDepth]
  rw [show (10000 : Nat) = 9999 + 1 from rfl, this]
  rfl
theorem pe_beql {ty : TypeId} {x y : Operand} {b c : Bool} (hop : o.op = .binOp .eql t x y ty) (hx : ev fr x = some (.bool b)) (hy : ev fr y = some (.bool c)) (hu : P.underlying t = some .bool) :
    PureEval P o n fr H (.bool (b == c)) := pe_eq hop hx hy rfl rfl fun d w => rq_bool d hu w
theorem pe_bneq {ty : TypeId} {x y : Operand} {b c : Bool} (hop : o.op = .binOp .neq t x y ty) (hx : ev fr x = some (.bool b)) (hy : ev fr y = some (.bool c)) (hu : P.underlying t = some .bool) :
    PureEval P o n fr H (.bool (!(b == c))) := pe_ne hop hx hy rfl rfl fun d w => rq_bool d hu w
/-- a pointer held against nil -/
theorem pe_peql {ty e : TypeId} {x y : Operand} {b : Option Addr} (hop : o.op = .binOp .eql t x y ty) (hx : ev fr x = some (.pointer b)) (hy : ev fr y = some (.pointer none)) (hu : P.underlying t = some (.pointer e)) :
    PureEval P o n fr H (.bool b.isNone) := pe_eq hop hx hy rfl (by cases b <;> rfl) fun d w => rq_ptr d hu w
theorem pe_pneq {ty e : TypeId} {x y : Operand} {b : Option Addr} (hop : o.op = .binOp .neq t x y ty) (hx : ev fr x = some (.pointer b)) (hy : ev fr y = some (.pointer none)) (hu : P.underlying t = some (.pointer e)) :
    PureEval P o n fr H (.bool (!b.isNone)) := pe_ne hop hx hy rfl (by cases b <;> rfl) fun d w => rq_ptr d hu w

/-- texts -/
theorem toList_S (l : Str) : (S l).toList = l := by
  have key : ∀ (b : ByteArray) (i : Nat) (r : List UInt8), ByteArray.toList.loop b i r = r.reverse ++ b.data.toList.drop i := by
    intro b i r
    induction h : b.size - i generalizing i r with
    | zero =>
      unfold ByteArray.toList.loop
      have : ¬ i < b.size := by omega
      rw [if_neg this]
      have : b.data.toList.length ≤ i := by have := Nat.not_lt.1 this; exact this
      simp [List.drop_eq_nil_of_le this]
    | succ k ih =>
      unfold ByteArray.toList.loop
      have hlt : i < b.size := by omega
      rw [if_pos hlt, ih (i + 1) _ (by omega)]
      have hl : i < b.data.toList.length := hlt
      rw [List.drop_eq_getElem_cons hl]
      have : b.get! i = b.data.toList[i] := by
        have hl' : i < b.data.size := by simpa using hl
        show b.data[i]! = _
        rw [getElem!_pos b.data i hl']; simp
      simp [this]
  have := key (S l) 0 []
  rw [List.reverse_nil, List.nil_append, List.drop_zero] at this
  exact this
theorem S_add (a b : Str) : S a ++ S b = S (a ++ b) := by
  apply ByteArray.ext; simp [S]
variable {s r : Str}
theorem pe_str {bop : BinOp} {ty : TypeId} {x y : Operand} {v : Value} (hop : o.op = .binOp bop t x y ty) (hx : ev fr x = some (.string (S s))) (hy : ev fr y = some (.string (S r)))
    (hv : ∀ w, (binOp bop t (.string (S s)) (.string (S r))).run P w = .ok v w) : PureEval P o n fr H v := by
  intro a w hk hw; simp [execOp, hop, hk.eval hx, hk.eval hy, Sem.run_bind, hv, Sem.run, eqGuard_at_string]
theorem bs_add (h : s.length + r.length < 4611686018427387904) (w : World) : (binOp .add t (.string (S s)) (.string (S r))).run P w = .ok (.string (S (s ++ r))) w := by
  have hs : (S s).size = s.length := rfl
  have hr : (S r).size = r.length := rfl
  have : ¬ ((((S s).size + (S r).size : Nat) : Int) > IntKind.i64.max) := by rw [hs, hr, IntKind.max_i64]; omega
  show (Op.stringOp .add (S s) (S r)).run P w = _
  unfold Op.stringOp
  simp only [this, if_false]
  rw [Sem.run_pure, S_add]
theorem bs_eql (w : World) : (binOp .eql t (.string (S s)) (.string (S r))).run P w = .ok (.bool (s == r)) w := by simp [binOp, Op.stringOp, Sem.run, toList_S]
theorem bs_neq (w : World) : (binOp .neq t (.string (S s)) (.string (S r))).run P w = .ok (.bool (!(s == r))) w := by simp [binOp, Op.stringOp, Sem.run, toList_S]
theorem bs_lss (w : World) : (binOp .lss t (.string (S s)) (.string (S r))).run P w = .ok (.bool (Op.bytesLess s r)) w := by simp [binOp, Op.stringOp, Sem.run, toList_S]
theorem bs_geq (w : World) : (binOp .geq t (.string (S s)) (.string (S r))).run P w = .ok (.bool (!(Op.bytesLess s r))) w := by simp [binOp, Op.stringOp, Sem.run, toList_S]
end
end Go.WG

set_option linter.unusedVariables false
set_option linter.unusedSimpArgs false
namespace Go.WG
open Go
section
variable {P : Program} {n : Nat} {fr : Frm} {H G : List Asr} {o : Oper} {K : Act → World → Prop}

/-- Where a field lies: its place and its type's make. -/
structure Fld (P : Program) (t : TypeId) (f off : Nat) (ft : TypeId) : Prop where
  field : ((P.underlying t).bind fun | .struct fs => (fs[f]?).map (fun f => (f.offset, f.type)) | _ => none) = some (off, ft)
theorem Fld.get {t : TypeId} {f off : Nat} {ft : TypeId} (h : Fld P t f off ft) : ∃ fs fd, P.underlying t = some (.struct fs) ∧ fs[f]? = some fd ∧ fd.offset = off ∧ fd.type = ft := by
  have h := h.field
  cases hu : P.underlying t with
  | none => rw [hu] at h; cases h
  | some d =>
    rw [hu] at h
    cases d with
    | struct fs =>
      simp only [Option.bind_some] at h
      cases hf : fs[f]? with
      | none => rw [hf] at h; cases h
      | some fd =>
        rw [hf] at h
        simp only [Option.map_some, Option.some.injEq, Prod.mk.injEq] at h
        exact ⟨fs, fd, rfl, hf, h.1, h.2⟩
    | _ => cases h

theorem pe_fld {t : TypeId} {x : Operand} {f off b m m' : Nat} {ft : TypeId} {agg : Bool} {size : Nat} (hop : o.op = .fieldAddr t x f) (hx : ev fr x = some (.pointer (some ⟨b, m, none⟩)))
    (hf : Fld P t f off ft) (ht : Ty P ft agg size) (hz : Nat.beq size 0 = false) (hm : m + off = m') : PureEval P o n fr H (.pointer (some ⟨b, m', none⟩)) := by
  intro a w hk hw
  obtain ⟨fs, fd, hu, hg, ho, hft⟩ := hf.get
  have hne : ¬ size = 0 := fun e => by subst e; simp at hz
  subst hm
  simp only [execOp, hop, hk.eval hx, Instr.fieldAt, Sem.run_bind, run_underlying hu, Result.andThen_ok, hg, Instr.sureAddr, Sem.run_pure, fieldPlace, hft, ht.sizeOf, hne, if_false, Addr.add_lit, ho]

theorem part_run {w : World} {t : TypeId} {agg : Bool} {size off : Nat} (ht : Ty P t agg size) {cs us : List Value} (hs : Sub cs off us) (hz : us.length = size) (ha : agg = false → us.length = 1) :
    (part t ⟨cs⟩ off).run P w = .ok (vof agg us) w := by
  unfold part
  rw [Sem.run_bind, ht.isAgg, Result.andThen_ok]
  have hget := hs.get.2
  have hlen := hs.get.1
  cases agg with
  | true =>
    rw [if_pos rfl, Sem.run_bind, ht.sizeOf, Result.andThen_ok, Sem.run_pure]
    have : (cs.toArray.extract off (off + size)) = us.toArray := by
      apply Array.ext'
      simp only [List.extract_toArray, List.toList_toArray, List.extract_eq_take_drop, Nat.add_sub_cancel_left]
      apply List.ext_getElem?
      intro i
      rw [List.getElem?_take]
      split
      · rename_i hi
        rw [List.getElem?_drop, hget i (by omega), List.getElem?_eq_getElem (by omega)]
      · rename_i hi
        rw [List.getElem?_eq_none (by omega)]
    show Result.ok (Value.agg (cs.toArray.extract off (off + size))) w = _
    rw [this]
    cases us <;> rfl
  | false =>
    have h1 := ha rfl
    match us, h1 with
    | [u], _ =>
      have h0 := hget 0 (by simp)
      rw [if_neg (by simp)]
      show Sem.run P (match (cs.toArray)[off]? with | some v => pure v | none => stuck "part: no such cell") w = _
      simp only [List.getElem?_toArray]
      rw [show cs[off]? = some u from h0]
      rfl

theorem pe_field {t : TypeId} {x : Operand} {f off : Nat} {ft : TypeId} {agg : Bool} {size : Nat} {cs us : List Value} {v : Value} (hop : o.op = .field t x f) (hx : ev fr x = some (.agg ⟨cs⟩))
    (hf : Fld P t f off ft) (ht : Ty P ft agg size) (hs : Sub cs off us) (hz : Nat.beq us.length size = true) (ha : agg = false → us.length = 1) (hv : vof agg us = v) : PureEval P o n fr H v := by
  intro a w hk hw
  obtain ⟨fs, fd, hu, hg, ho, hft⟩ := hf.get
  subst hv
  simp only [execOp, hop, hk.eval hx, Instr.field, Sem.run_bind, run_underlying hu, Result.andThen_ok, hg, asAgg, Sem.run_pure, hft, ho]
  rw [part_run ht hs (Nat.eq_of_beq_eq_true hz) ha]
  rfl

theorem pe_extract {x : Operand} {i : Nat} {vs : List Value} {v : Value} (hop : o.op = .extract x i) (hx : ev fr x = some (.tuple ⟨vs⟩)) (hv : vs[i]? = some v) : PureEval P o n fr H v := by
  intro a w hk hw
  have : (Array.mk vs)[i]? = some v := by rw [← hv]; exact List.getElem?_toArray
  simp only [execOp, hop, hk.eval hx, Instr.extract, this, Sem.run_bind, Sem.run_pure, Result.andThen_ok]

theorem pe_iface {t : TypeId} {x : Operand} {v : Value} {d : TypeDesc} (hop : o.op = .makeInterface t x) (hx : ev fr x = some v) (hu : P.underlying t = some d) (hd : (match d with | .interface _ => true | _ => false) = false) :
    PureEval P o n fr H (.iface t v) := by
  intro a w hk hw
  simp only [execOp, hop, hk.eval hx, Instr.makeInterface, Sem.run_bind, run_underlying hu, Result.andThen_ok]
  cases d <;> first | rfl | cases hd

theorem pe_func {f : Fn} {xs ys : List Operand} {us vs : List Value} (hop : o.op = .makeFunc f ⟨xs⟩ ⟨ys⟩) (hx : xs.map (ev fr) = us.map some) (hy : ys.map (ev fr) = vs.map some) :
    PureEval P o n fr H (.func f ⟨us⟩ ⟨vs⟩) := by
  intro a w hk hw
  have key : ∀ (l : List Operand) (us : List Value), l.map (ev fr) = us.map some → l.map a.eval = us := by
    intro l
    induction l with
    | nil => intro us h; cases us with
      | nil => rfl
      | cons => simp at h
    | cons x l ih => intro us h; cases us with
      | nil => simp at h
      | cons u us =>
        simp only [List.map_cons, List.cons.injEq] at h
        simp only [List.map_cons, ih us h.2, hk.eval h.1]
  have h1 : (Array.mk xs).map a.eval = Array.mk us := by
    rw [show Array.mk xs = xs.toArray from rfl, List.map_toArray, key xs us hx]
  have h2 : (Array.mk ys).map a.eval = Array.mk vs := by
    rw [show Array.mk ys = ys.toArray from rfl, List.map_toArray, key ys vs hy]
  simp only [execOp, hop, Instr.makeFunc, Sem.run_bind, Sem.run_pure, Result.andThen_ok, h1, h2]

/-- a byte of a text -/
theorem pe_sidx {t : TypeId} {x i : Operand} {k : IntKind} {s : Str} {j : Int} {c : UInt8} (hop : o.op = .index t x i) (hx : ev fr x = some (.string (S s))) (hi : ev fr i = some (.int k j)) (hu : P.underlying t = some .string)
    (h0 : 0 ≤ j) (hc : s[j.toNat]? = some c) : PureEval P o n fr H (.int .u8 c.toNat) := by
  intro a w hk hw
  have hlt : j.toNat < s.length := by
    rcases Nat.lt_or_ge j.toNat s.length with h | h
    · exact h
    · rw [List.getElem?_eq_none h] at hc; cases hc
  have hg : (S s)[j.toNat]? = some c := by
    have hs : j.toNat < (S s).size := hlt
    rw [getElem?_pos (S s) j.toNat hs]
    rw [List.getElem?_eq_getElem hlt] at hc
    exact hc
  simp only [execOp, hop, hk.eval hx, hk.eval hi, Instr.index, asIntOf, Sem.run_bind, Sem.run_pure, Result.andThen_ok, run_underlying hu, h0, if_true, hg]

/-- lengths -/
theorem args_eval {fr : Frm} {n : Nat} {a : Act} (hk : Knows n a fr) : ∀ (l : List Operand) (us : List Value), l.map (ev fr) = us.map some → l.map a.eval = us
  | [], us, h => by cases us with
    | nil => rfl
    | cons => simp at h
  | x :: l, us, h => by cases us with
    | nil => simp at h
    | cons u us =>
      simp only [List.map_cons, List.cons.injEq] at h
      simp only [List.map_cons, args_eval hk l us h.2, hk.eval h.1]
theorem args_array {fr : Frm} {n : Nat} {a : Act} (hk : Knows n a fr) {l : List Operand} {us : List Value} (h : l.map (ev fr) = us.map some) : (Array.mk l).map a.eval = Array.mk us := by
  rw [show Array.mk l = l.toArray from rfl, List.map_toArray, args_eval hk l us h]

theorem pe_slen {x : Operand} {ts : Array TypeId} {t : TypeId} {s : Str} (hop : o.op = .call { callee := .builtin .len, args := ⟨[x]⟩, argTypes := ⟨[t]⟩ }) (hx : ev fr x = some (.string (S s))) (hu : P.underlying t = some .string) :
    PureEval P o n fr H (.int .i64 s.length) := by
  intro a w hk hw
  have hm : (Array.mk [x]).map a.eval = #[Value.string (S s)] := args_array hk (by simp [hx])
  simp only [execOp, hop, resolve, hm, Sem.run_bind, Sem.run_pure, Result.andThen_ok, invoke, builtin, Builtin.len_]
  show (Sem.run P (Go.underlying t >>= _) w).andThen _ = _
  rw [Sem.run_bind, run_underlying hu]
  rfl
theorem pe_len {x : Operand} {t e : TypeId} {b : Option Addr} {l c : Nat} (hop : o.op = .call { callee := .builtin .len, args := ⟨[x]⟩, argTypes := ⟨[t]⟩ }) (hx : ev fr x = some (.slice b l c)) (hu : P.underlying t = some (.slice e)) :
    PureEval P o n fr H (.int .i64 l) := by
  intro a w hk hw
  have hm : (Array.mk [x]).map a.eval = #[Value.slice b l c] := args_array hk (by simp [hx])
  simp only [execOp, hop, resolve, hm, Sem.run_bind, Sem.run_pure, Result.andThen_ok, invoke, builtin, Builtin.len_]
  show (Sem.run P (Go.underlying t >>= _) w).andThen _ = _
  rw [Sem.run_bind, run_underlying hu]
  rfl
theorem pe_max {x y : Operand} {ts : Array TypeId} {k k' : IntKind} {p q : Int} (hop : o.op = .call { callee := .builtin .max, args := ⟨[x, y]⟩, argTypes := ts }) (hx : ev fr x = some (.int k p)) (hy : ev fr y = some (.int k' q)) :
    PureEval P o n fr H (.int k (if q > p then q else p)) := by
  intro a w hk hw
  have hm : (Array.mk [x, y]).map a.eval = #[Value.int k p, Value.int k' q] := args_array hk (by simp [hx, hy])
  simp only [execOp, hop, resolve, hm, Sem.run_bind, Sem.run_pure, Result.andThen_ok, invoke, builtin, Builtin.max_]
  rfl
theorem pe_min {x y : Operand} {ts : Array TypeId} {k k' : IntKind} {p q : Int} (hop : o.op = .call { callee := .builtin .min, args := ⟨[x, y]⟩, argTypes := ts }) (hx : ev fr x = some (.int k p)) (hy : ev fr y = some (.int k' q)) :
    PureEval P o n fr H (.int k (if q < p then q else p)) := by
  intro a w hk hw
  have hm : (Array.mk [x, y]).map a.eval = #[Value.int k p, Value.int k' q] := args_array hk (by simp [hx, hy])
  simp only [execOp, hop, resolve, hm, Sem.run_bind, Sem.run_pure, Result.andThen_ok, invoke, builtin, Builtin.min_]
  rfl

/-! new cells -/
theorem at_push_old {w : World} {x : Obj} {b o : Nat} (h : b < w.heap.size) : at_ { w with heap := w.heap.push x } b o = at_ w b o := by
  unfold at_
  show atObj (w.heap.push x)[b]? o = _
  rw [Array.getElem?_push, if_neg (by omega)]
theorem at_push_new {w : World} {cs : List Value} {t : TypeId} {j : Nat} (hj : j < cs.length) : at_ { w with heap := w.heap.push (.cells ⟨cs⟩ t) } w.heap.size j = .cell cs[j] false := by
  unfold at_
  show atObj (w.heap.push (.cells ⟨cs⟩ t))[w.heap.size]? j = _
  rw [Array.getElem?_push, if_pos rfl]
  have : (Array.mk cs)[j]? = some cs[j] := by rw [← List.getElem?_eq_getElem hj]; exact List.getElem?_toArray
  simp only [atObj, this]
  simp

theorem Holds.new {w : World} {H : List Asr} (h : Holds w H) (cs : List Value) (t : TypeId) : Holds { w with heap := w.heap.push (.cells ⟨cs⟩ t) } (pt w.heap.size 0 cs :: H) := by
  obtain ⟨I, O, hI, hO, hd, hs⟩ := h
  refine Holds.mk (I := I) (O1 := fun _ _ => False) (O2 := O) (I' := I) (O1' := fun b o => b = w.heap.size) hI hO hd hs (by simp) (by simp) (by simp) ?_ ?_ (fun _ _ x => x) ?_ ?_ ?_
  · refine ⟨rfl, rfl, rfl, by simp, shape_push, fun b o hf => at_push_old ?_⟩
    rcases hf with hf | hf
    · exact hI b o hf
    · exact hO b o hf
  · exact fun b o x => .inl x
  · intro b o x; exact .inr ⟨by omega, by simp; omega⟩
  · intro b o x y; have := hI b o x; omega
  · intro j hj
    refine ⟨rfl, ?_⟩
    rw [Nat.zero_add]
    exact at_push_new hj

/-- a type's zero -/
structure Zero (P : Program) (t : TypeId) (cs : List Value) : Prop where
  zero : ((P.info? t).bind (·.zero)).map (·.cells) = some ⟨cs⟩
theorem Zero.run {t : TypeId} {cs : List Value} (h : Zero P t cs) (w : World) : ∃ z, (zeroValue t).run P w = .ok z w ∧ z.cells = ⟨cs⟩ := by
  have h := h.zero
  cases hi : P.info? t with
  | none => rw [hi] at h; cases h
  | some i =>
    rw [hi] at h
    simp only [Option.bind_some] at h
    cases hz : i.zero with
    | none => rw [hz] at h; cases h
    | some z =>
      rw [hz] at h
      simp only [Option.map_some, Option.some.injEq] at h
      refine ⟨z, ?_, h⟩
      unfold zeroValue typeInfo program
      simp only [Sem.run_bind, Sem.run, hi, Result.andThen_ok, Sem.run_pure, hz]

theorem st_alloc {t : TypeId} {cs : List Value} (hop : o.op = .alloc t) (hz : Zero P t cs) : Step P o n fr H (fun v H' => ∃ b, v = .pointer (some ⟨b, 0, none⟩) ∧ H' = pt b 0 cs :: H) := by
  intro a w hk hw
  obtain ⟨z, hz, hc⟩ := hz.run w
  simp only [execOp, hop, Instr.alloc, Sem.run_bind, hz, Result.andThen_ok, newVar, newRow, newObj, Sem.run, hc, Sem.run_pure]
  exact ⟨_, ⟨_, rfl, rfl⟩, hw.new cs t⟩
theorem st_box {t : TypeId} {x : Operand} {v : Value} {cs : List Value} (hop : o.op = .box t x) (hx : ev fr x = some v) (hc : v.cells = ⟨cs⟩) : Step P o n fr H (fun v H' => ∃ b, v = .pointer (some ⟨b, 0, none⟩) ∧ H' = pt b 0 cs :: H) := by
  intro a w hk hw
  simp only [execOp, hop, hk.eval hx, Instr.box, Sem.run_bind, Result.andThen_ok, newVar, newRow, newObj, Sem.run, hc, Sem.run_pure]
  exact ⟨_, ⟨_, rfl, rfl⟩, hw.new cs t⟩

/-! stores -/
inductive Put : List Value → Nat → List Value → List Value → Prop
  | z {vs} : Put vs 0 [] vs
  | t {v vs u us vs'} : Put vs 0 us vs' → Put (v :: vs) 0 (u :: us) (u :: vs')
  | d {v vs j us vs'} : Put vs j us vs' → Put (v :: vs) (j + 1) us (v :: vs')

theorem at_setCell {w : World} {b o : Nat} {v u : Value} (h : at_ w b o = .cell u false) (b' o' : Nat) :
    at_ (w.setCell ⟨b, o, none⟩ v) b' o' = if b' = b ∧ o' = o then .cell v false else at_ w b' o' := by
  unfold at_ at *
  simp only [World.setCell, Array.getElem?_modify]
  by_cases hb : b' = b
  · subst hb
    simp only [if_true, true_and]
    cases hx : w.heap[b']? with
    | none => rw [hx] at h; cases h
    | some x =>
      rw [hx] at h
      cases x with
      | cells c t f =>
        obtain ⟨lo, hi⟩ := f
        simp only [atObj, Option.map_some, Option.isSome_none, Bool.false_eq_true, if_false] at h ⊢
        cases hc : c[o]? with
        | none => rw [hc] at h; cases h
        | some y =>
          rw [hc] at h
          simp only [Seen.cell.injEq] at h
          by_cases ho : o' = o
          · subst ho
            have hlt : o' < c.size := by
              rcases Nat.lt_or_ge o' c.size with h' | h'
              · exact h'
              · rw [Array.getElem?_eq_none h'] at hc; cases hc
            rw [Array.getElem?_setIfInBounds_self_of_lt hlt]
            simp [h.2]
          · rw [Array.getElem?_setIfInBounds_ne (fun e => ho e.symm), if_neg ho]
      | _ => cases h
  · have : ¬ b = b' := fun e => hb e.symm
    simp [this, hb]

theorem setCell_shape {w : World} {a : Addr} {v : Value} (b : Nat) : mt (w.setCell a v) b = mt w b := by
  unfold mt World.setCell
  simp only [Array.getElem?_modify]
  by_cases hb : a.block = b
  · simp only [hb, if_true]
    cases w.heap[b]? with
    | none => rfl
    | some x => cases x <;> simp only [Option.map_some]
                split <;> simp
  · simp only [hb, if_false]
theorem setCell_size {w : World} {a : Addr} {v : Value} : (w.setCell a v).heap.size = w.heap.size := by simp [World.setCell]

def one : Value → Bool
  | .agg _ | .tuple _ => false
  | _ => true
theorem store_run {w : World} {b o : Nat} {v u : Value} (h : at_ w b o = .cell u false) (hv : one v = true) : (store ⟨b, o, none⟩ v).run P w = .ok () (w.setCell ⟨b, o, none⟩ v) := by
  obtain ⟨h1, h2⟩ := at_cell h
  cases v <;> simp [one] at hv <;> simp [store, Sem.run, h1, h2]

theorem storeCells_run (P : Program) {b m : Nat} : ∀ (us : List Value) (w : World) (i : Nat), (∀ k, k < us.length → ∃ u, at_ w b (m + i + k) = .cell u false) → us.all one = true →
    ∃ w', (storeCells ⟨b, m, none⟩ us i).run P w = .ok () w' ∧ w'.os = w.os ∧ w'.tape = w.tape ∧ w'.output = w.output ∧ w'.heap.size = w.heap.size ∧ (∀ b', mt w' b' = mt w b') ∧
      (∀ b' o', (b' ≠ b ∨ o' < m + i ∨ m + i + us.length ≤ o') → at_ w' b' o' = at_ w b' o') ∧ (∀ k (hk : k < us.length), at_ w' b (m + i + k) = .cell us[k] false)
  | [], w, i, _, _ => ⟨w, rfl, rfl, rfl, rfl, rfl, fun _ => rfl, fun _ _ _ => rfl, fun k hk => by simp at hk⟩
  | u :: us, w, i, h, hu => by
    simp only [List.all_cons, Bool.and_eq_true] at hu
    obtain ⟨y, h0⟩ := h 0 (by simp)
    rw [Nat.add_zero] at h0
    have hst := store_run (P := P) h0 hu.1
    have hat := fun b' o' => at_setCell (v := u) h0 b' o'
    obtain ⟨w', hrun, h1, h2, h3, h4, hsh, h5, h6⟩ := storeCells_run P (b := b) (m := m) us (w.setCell ⟨b, m + i, none⟩ u) (i + 1) (fun k hk => by
      obtain ⟨z, hz⟩ := h (k + 1) (by simpa using hk)
      refine ⟨z, ?_⟩
      rw [hat, if_neg (by omega), show m + (i + 1) + k = m + i + (k + 1) by omega, hz]) hu.2
    refine ⟨w', ?_, h1, h2, h3, h4.trans setCell_size, fun b' => (hsh b').trans (setCell_shape b'), ?_, ?_⟩
    · unfold storeCells
      rw [Sem.run_bind, Addr.add_lit, hst, Result.andThen_ok, hrun]
    · intro b' o' ho
      rw [h5 b' o' (by simp at ho; omega), hat, if_neg]
      rintro ⟨rfl, rfl⟩
      simp at ho
      omega
    · intro k hk
      cases k with
      | zero =>
        rw [h5 b (m + i + 0) (by omega), hat]
        simp
      | succ k =>
        have := h6 k (by simpa using hk)
        rw [show m + i + (k + 1) = m + (i + 1) + k by omega, this]
        simp

theorem Put.get {vs us vs' : List Value} {j : Nat} (h : Put vs j us vs') : vs'.length = vs.length ∧ (us ≠ [] → j + us.length ≤ vs.length) ∧
    ∀ k, vs'[k]? = if j ≤ k ∧ k < j + us.length then us[k - j]? else vs[k]? := by
  induction h with
  | z => exact ⟨rfl, fun h => absurd rfl h, fun k => by rw [if_neg (by simp)]⟩
  | @t v vs u us vs' hp ih =>
    obtain ⟨h1, h2, h3⟩ := ih
    refine ⟨by simp [h1], fun _ => ?_, fun k => ?_⟩
    · simp only [List.length_cons, Nat.zero_add] at h2 ⊢
      by_cases e : us = []
      · subst e; simp
      · have := h2 e; omega
    · cases k with
      | zero => simp
      | succ k =>
        have := h3 k
        simp only [Nat.zero_add, Nat.zero_le, true_and, Nat.sub_zero, List.length_cons, List.getElem?_cons_succ] at this ⊢
        rw [this]
        by_cases hk : k < us.length
        · rw [if_pos hk, if_pos (by omega)]
        · rw [if_neg hk, if_neg (by omega)]
  | @d v vs j us vs' hp ih =>
    obtain ⟨h1, h2, h3⟩ := ih
    refine ⟨by simp [h1], fun e => by have := h2 e; simp; omega, fun k => ?_⟩
    cases k with
    | zero => simp
    | succ k =>
      have := h3 k
      simp only [List.getElem?_cons_succ]
      rw [this]
      by_cases hk : j ≤ k ∧ k < j + us.length
      · rw [if_pos hk, if_pos (by omega), show k + 1 - (j + 1) = k - j by omega]
      · rw [if_neg hk, if_neg (by omega)]

theorem Holds.store (P : Program) {w : World} {H : List Asr} {b r m j : Nat} {vs us vs' : List Value} (hw : Holds w (pt b r vs :: H)) (hm : r + j = m) (hp : Put vs j us vs') (hu : us.all one = true) :
    ∃ w', (storeCells ⟨b, m, none⟩ us).run P w = .ok () w' ∧ Holds w' (pt b r vs' :: H) := by
  obtain ⟨I, O1, O2, hI, hO1, hO2, hd1, hd2, hd12, hA, hS⟩ := hw.upd
  obtain ⟨g1, g2, g3⟩ := hp.get
  by_cases e : us = []
  · subst e
    refine ⟨w, rfl, ?_⟩
    have : vs' = vs := by apply List.ext_getElem?; intro k; rw [g3 k, if_neg (by simp)]
    rw [this]; exact hw
  · have hle := g2 e
    obtain ⟨w', hrun, h1, h2, h3, h4, hsh, h5, h6⟩ := storeCells_run P (b := b) (m := m) us w 0 (fun k hk => by
      have := (hA (j + k) (by omega)).2
      exact ⟨_, by rw [show m + 0 + k = r + (j + k) by omega]; exact this⟩) hu
    refine ⟨w', hrun, ?_⟩
    have hout : ∀ b' o', (O1 b' o' → b' ≠ b ∨ o' < m ∨ m + us.length ≤ o') → at_ w' b' o' = at_ w b' o' := fun b' o' hn => h5 b' o' (by
      by_cases hb : b' = b
      · by_cases ho : o' < m ∨ m + us.length ≤ o'
        · omega
        · subst hb
          have : O1 b' o' := by
            have := (hA (o' - r) (by omega)).1
            rw [show r + (o' - r) = o' by omega] at this; exact this
          have := hn this; omega
      · exact .inl hb)
    refine Holds.mk hI hO2 hd2 hS hO1 hd1 hd12 (I' := I) (O1' := O1) ⟨h1, h2, h3, by omega, fun b' y' hx => (hsh b').trans hx, fun b' o' hf => hout b' o' fun hx => ?_⟩ (fun _ _ x => .inl x) (fun _ _ x => x) (fun _ _ x => .inl x) hd1 ?_
    · rcases hf with hf | hf
      · exact (hd1 _ _ hf hx).elim
      · exact (hd12 _ _ hx hf).elim
    · intro k hk
      have hk' : k < vs.length := by omega
      refine ⟨(hA k hk').1, ?_⟩
      have hg := g3 k
      rw [List.getElem?_eq_getElem hk] at hg
      by_cases hin : j ≤ k ∧ k < j + us.length
      · rw [if_pos hin, List.getElem?_eq_getElem (by omega)] at hg
        have := h6 (k - j) (by omega)
        rw [show m + 0 + (k - j) = r + k by omega] at this
        rw [this]
        exact congrArg (Seen.cell · false) (Option.some.inj hg).symm
      · rw [if_neg hin, List.getElem?_eq_getElem hk'] at hg
        rw [h5 b (r + k) (by omega), (hA k hk').2]
        exact congrArg (Seen.cell · false) (Option.some.inj hg).symm

/-- store: into cells of one's own -/
theorem st_store {t : TypeId} {x y : Operand} {agg : Bool} {size b m r j : Nat} {vs us vs' : List Value} {v : Value} (hop : o.op = .store t x y) (hx : ev fr x = some (.pointer (some ⟨b, m, none⟩))) (hy : ev fr y = some v)
    (hv : v.cells = ⟨us⟩) (hp : Pull (pt b r vs) H G) (hm : r + j = m) (hs : Put vs j us vs') (ht : Ty P t agg size) (hz : Nat.beq us.length size = true) (hu : us.all one = true) :
    Step P o n fr H (fun u H' => H' = pt b r vs' :: G) := by
  intro a w hk hw
  obtain ⟨w', hrun, hw'⟩ := (hp.imp w hw).store P hm hs hu
  have hsz : v.cells.size = size := by rw [hv]; exact Nat.eq_of_beq_eq_true hz
  have hl : v.cells.toList = us := by rw [hv]
  have hrun2 : (storeVar t ⟨b, m, none⟩ v).run P w = .ok () w' := by
    unfold storeVar
    rw [Sem.run_bind, ht.sizeOf, Result.andThen_ok, if_neg (by rw [hsz]; simp), hl]
    show Sem.run P (storeCells ⟨b, m, none⟩ us) w = _
    exact hrun
  simp only [execOp, hop, hk.eval hx, hk.eval hy, Instr.storeAt, Instr.sureAddr, Sem.run_bind, Sem.run_pure, Result.andThen_ok, hrun2]
  exact ⟨_, rfl, hw'⟩

/-! calls -/
/-- What a call comes to: of what stands before, what stands behind, whatever stands beside. -/
def Tri (P : Program) (f : FuncId) (args : List Value) (H : List Asr) (Φ : Value → List Asr → Prop) : Prop :=
  ∀ (w : World) (F : List Asr), Holds w (H ++ F) → Calls P f ⟨args⟩ w fun e w' => ∃ v H', e = .returned v ∧ Φ v H' ∧ Holds w' (H' ++ F)

/-- a function with a body that is called as any other -/
structure Fun (P : Program) (f : FuncId) : Prop where
  call : ∀ args w, (callFunc f args).run P w = .ok (.enter f args) w
theorem Fun.of {f : FuncId} {fn : Func} (h : P.funcs[f]? = some fn) (hb : fn.body.isNone = false) (hn : (fn.name == "runtime.NumGoroutine") = false) : Fun P f := by
  refine ⟨fun args w => ?_⟩
  unfold callFunc program
  rw [Sem.run_bind]
  simp only [Sem.run, Result.andThen_ok, h, hn, hb, Bool.false_eq_true, if_false]
  rfl

theorem st_call {f : FuncId} {xs : List Operand} {us : List Value} {ts : Array TypeId} {H0 : List Asr} {Φ : Value → List Asr → Prop} (ht : Tri P f us H0 Φ) (hop : o.op = .call { callee := .value (.func f), args := ⟨xs⟩, argTypes := ts })
    (hx : xs.map (ev fr) = us.map some) (hf : Fun P f) (hs : Sel H (H0 ++ G)) : Step P o n fr H (fun v H' => ∃ H1, Φ v H1 ∧ H' = H1 ++ G) := by
  intro a w hk hw
  have hm := args_array hk hx
  have := ht w G (hs.imp w hw)
  simp only [execOp, hop, resolve, hm, Sem.run_bind, Sem.run_pure, Result.andThen_ok, Act.eval, Deferred.ofValue, invoke]
  have he : (#[] ++ Array.mk us ++ #[] : Array Value) = Array.mk us := by simp
  rw [he, hf.call]
  refine this.mono fun e w' he => ?_
  obtain ⟨v, H', rfl, h1, h2⟩ := he
  exact ⟨H' ++ G, ⟨H', h1, rfl⟩, h2⟩
end
end Go.WG

set_option linter.unusedVariables false
set_option linter.unusedSimpArgs false
namespace Go.WG
open Go
section
variable {P : Program} {n : Nat} {fr : Frm} {H G : List Asr} {K : Act → World → Prop}

def argf : Nat → List Value → Frm
  | _, [] => []
  | i, v :: l => (i, v) :: argf (i + 1) l

theorem argf_get {l : List Value} : ∀ {k i : Nat} {v : Value}, fget (argf k l) i = some v → k ≤ i ∧ l[i - k]? = some v := by
  induction l with
  | nil => intro k i v h; cases h
  | cons u l ih =>
    intro k i v h
    simp only [argf, fget] at h
    cases hb : Nat.beq k i with
    | true =>
      rw [hb] at h
      have := Nat.eq_of_beq_eq_true hb
      subst this
      simp only [Option.some.injEq] at h
      exact ⟨Nat.le_refl _, by simp [h]⟩
    | false =>
      rw [hb] at h
      obtain ⟨h1, h2⟩ := ih h
      refine ⟨by omega, ?_⟩
      rw [show i - k = (i - (k + 1)) + 1 by omega]
      simpa using h2

theorem Tri.intro {f : FuncId} {fn : Func} {c : Code} {args : List Value} {H0 : List Asr} {Φ : Value → List Asr → Prop} {H1 : List Asr → List Asr} (hf : P.funcs[f]? = some fn) (hb : fn.body = some c) (hn : fn.ntmps = n)
    (hl : Nat.ble args.length n = true) (hfr : argf 0 args = fr) (hH : ∀ F, H0 ++ F = H1 F)
    (h : ∀ F, To n (c.wp P (bodyPost P fn (fun e w' => ∃ v H', e = .returned v ∧ Φ v H' ∧ Holds w' (H' ++ F)))) fr (H1 F)) : Tri P f args H0 Φ := by
  intro w F hw
  refine calls_of_wp hf hb (h F _ w ?_ (hH F ▸ hw))
  have hl := Nat.le_of_ble_eq_true hl
  refine ⟨by simp [hn]; omega, rfl, fun i v hv => ?_⟩
  rw [← hfr] at hv
  obtain ⟨_, h2⟩ := argf_get hv
  have hi : i < args.length := by
    rcases Nat.lt_or_ge i args.length with h | h
    · exact h
    · rw [Nat.sub_zero, List.getElem?_eq_none h] at h2; cases h2
  simp only [Array.getD_eq_getD_getElem?]
  rw [Array.getElem?_append_left (by simpa using hi)]
  rw [Nat.sub_zero] at h2
  rw [show (Array.mk args)[i]? = args[i]? from List.getElem?_toArray, h2]
  rfl

inductive Res (P : Program) (fr : Frm) (H : List Asr) : List ResultVar → List Value → Prop
  | nil : Res P fr H [] []
  | tmp {t v rs vs} : fget fr t = some v → Res P fr H rs vs → Res P fr H (.tmp t :: rs) (v :: vs)
  | cell {a t A G agg size b m r j cs us v rs vs} : fget fr a = some (.pointer (some ⟨b, m, none⟩)) → Pull A H G → Lies A b r cs → r + j = m → Sub cs j us → Ty P t agg size → Nat.beq us.length size = true →
      (agg = false → us.length = 1) → vof agg us = v → Res P fr H rs vs → Res P fr H (.cell a t :: rs) (v :: vs)

theorem load_at {A : Asr} {t : TypeId} {agg : Bool} {size b m r j : Nat} {vs us : List Value} {v : Value} {w : World}
    (hw : Holds w H) (hp : Pull A H G) (hl : Lies A b r vs) (hm : r + j = m) (hs : Sub vs j us) (ht : Ty P t agg size) (hz : Nat.beq us.length size = true) (ha : agg = false → us.length = 1) (hv : vof agg us = v) :
    (loadVar t ⟨b, m, none⟩).run P w = .ok v w := by
  obtain ⟨I, O1, O2, _, _, _, _, _, _, hA, _⟩ := (hp.imp w hw).upd
  have hc := hl.cells hA
  subst hm
  have hget := hs.get
  have hrun := loadVar_run (P := P) (w := w) ht (b := b) (m := r + j) (us := us) (Nat.eq_of_beq_eq_true hz) (fun k hk => by
    have h1 := hget.2 k hk
    have hlt : j + k < vs.length := by
      rcases Nat.lt_or_ge (j + k) vs.length with h | h
      · exact h
      · rw [List.getElem?_eq_none h] at h1; cases h1
    have h2 := hc (j + k) hlt
    rw [List.getElem?_eq_getElem hlt] at h1
    rw [Nat.add_assoc, h2, h1]) ha
  rw [hrun, hv]

theorem Res.run {rs : List ResultVar} {vs : List Value} (h : Res P fr H rs vs) {a : Act} {w : World} (ha : Knows n a fr) (hw : Holds w H) :
    (rs.mapM fun (r : ResultVar) => match r with
      | .tmp t => (pure (a.tmps.getD t undef) : Sem Value)
      | .cell x t => do loadVar t (← asAddr (a.tmps.getD x undef))).run P w = .ok vs w := by
  induction h with
  | nil => rfl
  | tmp hg _ ih =>
    rw [List.mapM_cons, Sem.run_bind]
    simp only [Sem.run_pure, Result.andThen_ok]
    rw [Sem.run_bind, ih, ha.val _ _ hg]
    rfl
  | cell hg hp hl hm hs ht hz hag hv _ ih =>
    rw [List.mapM_cons, Sem.run_bind]
    simp only [ha.val _ _ hg]
    rw [Sem.run_bind, show ∀ a : Addr, (asAddr (.pointer (some a))).run P w = .ok a w from fun _ => rfl]
    simp only [Result.andThen_ok]
    rw [load_at hw hp hl hm hs ht hz hag hv]
    simp only [Result.andThen_ok]
    rw [Sem.run_bind, ih]
    rfl

def tup : List Value → Value
  | [v] => v
  | vs => .tuple ⟨vs⟩

theorem To.back {fn : Func} {rs : List ResultVar} {vs : List Value} {v : Value} {Φ : Value → List Asr → Prop} {F : List Asr} {H' : List Asr} (hr : fn.results = ⟨rs⟩) (h : Res P fr H rs vs) (hv : tup vs = v)
    (hφ : Φ v H') (hi : Sel H (H' ++ F)) : To n (bodyPost P fn (fun e w' => ∃ v H', e = .returned v ∧ Φ v H' ∧ Holds w' (H' ++ F)) .ret) fr H := by
  intro a w ha hw
  refine ⟨ha.defers, v, ?_, v, H', rfl, hφ, hi.imp w hw⟩
  unfold results
  rw [hr, Sem.run_bind]
  rw [show (Array.mk rs) = rs.toArray from rfl, List.mapM_toArray, Sem.run_map]
  erw [h.run ha hw]
  simp only [Result.andThen_ok, Sem.run_pure]
  subst hv
  match vs with
  | [] => rfl
  | [u] => rfl
  | u :: u' :: us => rfl
theorem To.back0 {fn : Func} {rs : List ResultVar} {vs : List Value} {v : Value} {Φ : Value → List Asr → Prop} {F : List Asr} {H' : List Asr} (hr : fn.results = ⟨rs⟩) (h : Res P fr H rs vs) (hv : tup vs = v)
    (hφ : Φ v H') (hi : Sel H (H' ++ F)) : To n (bodyPost P fn (fun e w' => ∃ v H', e = .returned v ∧ Φ v H' ∧ Holds w' (H' ++ F)) .normal) fr H :=
  To.back (P := P) (n := n) (fn := fn) hr h hv hφ hi
theorem To.at {a : Act} {w : World} (ha : Knows n a fr) (hw : Holds w H) (h : To n K fr H) : K a w := h a w ha hw
end
end Go.WG

set_option linter.unusedVariables false
set_option linter.unusedSimpArgs false
namespace Go.WG
open Go

/-- How a thing lies in cells. -/
structure Kd (α : Type) where
  sz : Nat
  rep : World → Fp → List Value → α → Prop
  len : ∀ {w I cs x}, rep w I cs x → cs.length = sz
  ones : ∀ {w I cs x}, rep w I cs x → cs.all one = true
  mono : ∀ {w w' I I' cs x}, rep w I cs x → (∀ b o, I b o → I' b o) → Keeps w w' I → rep w' I' cs x

def kInt (k : IntKind) : Kd Int where
  sz := 1
  rep _ _ cs x := cs = [.int k x]
  len h := by subst h; rfl
  ones h := by subst h; rfl
  mono h _ _ := h
def kBool : Kd Bool where
  sz := 1
  rep _ _ cs x := cs = [.bool x]
  len h := by subst h; rfl
  ones h := by subst h; rfl
  mono h _ _ := h
def kStr : Kd Str where
  sz := 1
  rep _ _ cs x := cs = [.string (S x)]
  len h := by subst h; rfl
  ones h := by subst h; rfl
  mono h _ _ := h

section
variable {α : Type}
/-- cells that tell of a thing -/
def rp (k : Kd α) (cs : List Value) (x : α) : Asr where
  holds w I _ := k.rep w I cs x
  mono h hI _ hk := k.mono h hI (hk.sub fun _ _ x => .inl x)

def ImmAt (k : Kd α) (w : World) (I : Fp) (a : Option Addr) (cap : Nat) (xs : List α) : Prop :=
  xs.length ≤ cap ∧ ∀ i (hi : i < xs.length), ∃ b o cs, a = some ⟨b, o, none⟩ ∧ k.rep w I cs xs[i] ∧ ∀ j (hj : j < cs.length), I b (o + i * k.sz + j) ∧ ∃ fl, at_ w b (o + i * k.sz + j) = .cell cs[j] fl
theorem ImmAt.mono {k : Kd α} {w w' : World} {I I' : Fp} {a : Option Addr} {cap : Nat} {xs : List α} (h : ImmAt k w I a cap xs) (hI : ∀ b o, I b o → I' b o) (hk : Keeps w w' I) : ImmAt k w' I' a cap xs := by
  refine ⟨h.1, fun i hi => ?_⟩
  obtain ⟨b, o, cs, ha, hr, hc⟩ := h.2 i hi
  exact ⟨b, o, cs, ha, k.mono hr hI hk, fun j hj => ⟨hI _ _ (hc j hj).1, (hc j hj).2.imp fun _ hf => (hk.same _ _ (hc j hj).1).trans hf⟩⟩
/-- a slice that never changes any more: '.slice a xs.length cap' -/
def imm (k : Kd α) (a : Option Addr) (cap : Nat) (xs : List α) : Asr where
  holds w I _ := ImmAt k w I a cap xs
  mono h hI _ hk := h.mono hI (hk.sub fun _ _ x => .inl x)

/-- a slice of one's own, with its spare room: '.slice a xs.length cap' -/
def own (k : Kd α) (a : Option Addr) (cap : Nat) (xs : List α) : Asr where
  holds w I O := (a = none ∧ cap = 0 ∧ xs = []) ∨ ∃ b o, a = some ⟨b, o, none⟩ ∧ xs.length ≤ cap ∧ (∀ t, t < cap * k.sz → O b (o + t) ∧ ∃ v, at_ w b (o + t) = .cell v false) ∧
    ∀ i (hi : i < xs.length), ∃ cs, k.rep w I cs xs[i] ∧ ∀ j (hj : j < cs.length), at_ w b (o + i * k.sz + j) = .cell cs[j] false
  mono := by
    intro w w' I I' O O' h hI hO hk
    rcases h with h | ⟨b, o, ha, hl, hc, hx⟩
    · exact .inl h
    · refine .inr ⟨b, o, ha, hl, fun t ht => ⟨hO _ _ (hc t ht).1, (hc t ht).2.imp fun _ hf => (hk.same _ _ (.inr (hc t ht).1)).trans hf⟩, fun i hi => ?_⟩
      obtain ⟨cs, hr, hj⟩ := hx i hi
      refine ⟨cs, k.mono hr hI (hk.sub fun _ _ x => .inl x), fun j hj' => ?_⟩
      have hlt : i * k.sz + j < cap * k.sz := by
        have := k.len hr
        have h1 : (i + 1) * k.sz ≤ cap * k.sz := Nat.mul_le_mul_right _ (by omega)
        rw [Nat.add_mul, Nat.one_mul] at h1
        omega
      have := hk.same b (o + (i * k.sz + j)) (.inr (hc _ hlt).1)
      rw [← Nat.add_assoc] at this
      exact this.trans (hj j hj')

theorem Imp.imm_nil {k : Kd α} {c : Nat} {H : List Asr} : Imp H (imm k none c [] :: H) := Imp.of_sat fun w I O h =>
  ⟨fun _ _ => False, O, fun _ _ x => x.elim, fun _ _ x => x, fun _ _ x => x.elim, ⟨Nat.zero_le _, fun i hi => by simp at hi⟩, h⟩
theorem Imp.own_nil {k : Kd α} {H : List Asr} : Imp H (own k none 0 [] :: H) := Imp.of_sat fun w I O h =>
  ⟨fun _ _ => False, O, fun _ _ x => x.elim, fun _ _ x => x, fun _ _ x => x.elim, .inl ⟨rfl, rfl, rfl⟩, h⟩
/-- what never changes may be told twice -/
theorem Imp.imm_dup {k : Kd α} {a : Option Addr} {c : Nat} {xs : List α} {H : List Asr} : Imp (imm k a c xs :: H) (imm k a c xs :: imm k a c xs :: H) := Imp.of_sat fun w I O h => by
  obtain ⟨O1, O2, h1, h2, h12, hA, hH⟩ := h
  exact ⟨fun _ _ => False, O, fun _ _ x => x.elim, fun _ _ x => x, fun _ _ x => x.elim, hA, O1, O2, h1, h2, h12, hA, hH⟩

/-- a logical fact out of what stands first, kept -/
theorem Imp.add {A B : Asr} {H : List Asr} (h : ∀ w I O, A.holds w I O → B.holds w I (fun _ _ => False)) : Imp (A :: H) (B :: A :: H) := Imp.of_sat fun w I O hs => by
  obtain ⟨O1, O2, h1, h2, h12, hA, hH⟩ := hs
  exact ⟨fun _ _ => False, O, fun _ _ x => x.elim, fun _ _ x => x, fun _ _ x => x.elim, h w I O1 hA, O1, O2, h1, h2, h12, hA, hH⟩

/-- one's own is given up: it never changes any more -/
theorem Imp.freeze {k : Kd α} {a : Option Addr} {c : Nat} {xs : List α} {H : List Asr} : Imp (own k a c xs :: H) (imm k a c xs :: H) := by
  intro w hw
  obtain ⟨I, O1, O2, hI, hO1, hO2, hd1, hd2, hd12, hA, hS⟩ := hw.upd
  refine Holds.mk hI hO2 hd2 hS hO1 hd1 hd12 (I' := fun b o => I b o ∨ O1 b o) (O1' := fun _ _ => False) (Keeps.refl _ _) (fun b o x => x.imp id .inl) (fun _ _ x => .inl x) (fun _ _ x => x.elim) (fun _ _ _ x => x) ?_
  rcases hA with ⟨rfl, rfl, rfl⟩ | ⟨b, o, ha, hl, hc, hx⟩
  · exact ⟨Nat.zero_le _, fun i hi => by simp at hi⟩
  · refine ⟨hl, fun i hi => ?_⟩
    obtain ⟨cs, hr, hj⟩ := hx i hi
    refine ⟨b, o, cs, ha, k.mono hr (fun _ _ x => .inl x) (Keeps.refl _ _), fun j hj' => ⟨.inr ?_, false, hj j hj'⟩⟩
    have hlt : i * k.sz + j < c * k.sz := by
      have := k.len hr
      have h1 : (i + 1) * k.sz ≤ c * k.sz := Nat.mul_le_mul_right _ (by omega)
      rw [Nat.add_mul, Nat.one_mul] at h1
      omega
    have := (hc _ hlt).1
    rwa [← Nat.add_assoc] at this

variable {P : Program} {n : Nat} {fr : Frm} {H G : List Asr} {o : Oper} {K : Act → World → Prop}
/-- an element laid open -/
theorem open_imm {k : Kd α} {a : Option Addr} {c : Nat} {xs : List α} {i : Nat} {x : α} (hp : Pull (imm k a c xs) H G) (hx : xs[i]? = some x) :
    ∀ w, Holds w H → ∃ q : Nat × Nat × List Value, a = some ⟨q.1, q.2.1, none⟩ ∧ Holds w (rp k q.2.2 x :: ro q.1 (q.2.1 + i * k.sz) q.2.2 :: H) := by
  intro w hw
  have hw' := hp.imp w hw
  obtain ⟨I, O, hI, hO, hd, hs⟩ := hw
  have hi : i < xs.length := by
    rcases Nat.lt_or_ge i xs.length with h | h
    · exact h
    · rw [List.getElem?_eq_none h] at hx; cases hx
  have hsat := hp.sat w I O hs
  obtain ⟨O1, O2, h1, h2, h12, hA, hH⟩ := hsat
  obtain ⟨b, o, cs, ha, hr, hc⟩ := hA.2 i hi
  rw [List.getElem?_eq_getElem hi, Option.some.injEq] at hx
  subst hx
  exact ⟨(b, o, cs), ha, I, O, hI, hO, hd, fun _ _ => False, O, fun _ _ x => x.elim, fun _ _ x => x, fun _ _ x => x.elim, hr, fun _ _ => False, O, fun _ _ x => x.elim, fun _ _ x => x, fun _ _ x => x.elim, hc, hs⟩

theorem To.openImm {k : Kd α} {a : Option Addr} {c : Nat} {xs : List α} {i : Nat} {x : α} (hp : Pull (imm k a c xs) H G) (hx : xs[i]? = some x)
    (h : ∀ b r cs, a = some ⟨b, r, none⟩ → To n K fr (rp k cs x :: ro b (r + i * k.sz) cs :: H)) : To n K fr H := by
  intro a' w ha hw
  obtain ⟨⟨b, r, cs⟩, e, hw'⟩ := open_imm hp hx w hw
  exact h b r cs e a' w ha hw'

instance {k : Kd α} {a : Option Addr} {c : Nat} {xs : List α} : Pers (imm k a c xs) := ⟨fun _ _ _ h => h⟩
instance {k : Kd α} {cs : List Value} {x : α} : Pers (rp k cs x) := ⟨fun _ _ _ h => h⟩
instance {b r : Nat} {vs : List Value} : Pers (ro b r vs) := ⟨fun _ _ _ h => h⟩

/-- what 'rp' tells, by a law of its kind: an equation on the cells, and what they lead to -/
theorem To.ofRp {k : Kd α} {cs : List Value} {x : α} {β : Type} {p : β → Prop} {L : β → List Asr} (h : ∀ w I, k.rep w I cs x → ∃ y, p y ∧ Sat w I (L y) (fun _ _ => False))
    (hk : ∀ y, p y → To n K fr (L y ++ H)) : To n K fr (rp k cs x :: H) := by
  intro a w ha hw
  obtain ⟨I, O, hI, hO, hd, O1, O2, h1, h2, h12, hA, hH⟩ := hw
  obtain ⟨y, hp, hs⟩ := h w I hA
  refine hk y hp a w ha ⟨I, O, hI, hO, hd, ?_⟩
  have hH' : Sat w I H O := Sat.mono (fun _ _ x => x) hH h2 (Keeps.refl _ _)
  clear hp hk h
  generalize L y = l at hs
  induction l with
  | nil => exact hH'
  | cons B L ih =>
    obtain ⟨P1, P2, g1, g2, g12, hB, hL⟩ := hs
    refine ⟨P1, O, fun _ _ x => (g1 _ _ x).elim, fun _ _ x => x, fun _ _ x => (g1 _ _ x).elim, hB, ih (Sat.mono (fun _ _ x => x) hL g2 (Keeps.refl _ _))⟩

/-- a fact out of 'rp' -/
theorem To.rpEq {k : Kd α} {cs : List Value} {x : α} {p : Prop} (h : ∀ w I, k.rep w I cs x → p) (hk : p → To n K fr H) : To n K fr (rp k cs x :: H) :=
  To.ofRp (β := Unit) (p := fun _ => p) (L := fun _ => []) (fun w I hr => ⟨(), h w I hr, trivial⟩) fun _ hp => hk hp

/-- the address of an element -/
theorem pe_idx {t e : TypeId} {x i : Operand} {ki : IntKind} {agg : Bool} {sz b r l c m : Nat} {j : Int} (hop : o.op = .indexAddr t x i) (hx : ev fr x = some (.slice (some ⟨b, r, none⟩) l c)) (hi : ev fr i = some (.int ki j))
    (hu : P.underlying t = some (.slice e)) (ht : Ty P e agg sz) (h0 : 0 ≤ j) (hl : j.toNat < l) (hm : r + j.toNat * sz = m) : PureEval P o n fr H (.pointer (some ⟨b, m, none⟩)) := by
  intro a w hk hw
  have hin : 0 ≤ j ∧ j < (l : Int) := ⟨h0, by omega⟩
  subst hm
  simp only [execOp, hop, hk.eval hx, hk.eval hi, Instr.indexAt, asIntOf, Sem.run_bind, Sem.run_pure, Result.andThen_ok, run_underlying hu, hin, ht.sizeOf, if_true, Addr.add_lit, and_self]
end
end Go.WG

set_option linter.unusedVariables false
set_option linter.unusedSimpArgs false
namespace Go.WG
open Go
section
variable {α : Type} {P : Program} {n : Nat} {fr : Frm} {H G : List Asr} {o : Oper} {K : Act → World → Prop}

theorem loadCells_run {w : World} {b m : Nat} (us : List Value) (h : ∀ k (hk : k < us.length), w.cell? ⟨b, m + k, none⟩ = some us[k]) : (loadCells ⟨b, m, none⟩ us.length).run P w = .ok ⟨us⟩ w := by
  unfold loadCells
  rw [loadCellsFrom_run P us 0 #[] (by simpa using h)]
  simp

/-- cells of some things, one behind the other -/
def Reps (k : Kd α) (w : World) (I : Fp) : List Value → List α → Prop
  | cs, [] => cs = []
  | cs, x :: xs => ∃ c1 c2, cs = c1 ++ c2 ∧ k.rep w I c1 x ∧ Reps k w I c2 xs
theorem Reps.len {k : Kd α} {w : World} {I : Fp} : ∀ {xs : List α} {cs : List Value}, Reps k w I cs xs → cs.length = xs.length * k.sz
  | [], cs, h => by subst h; simp
  | x :: xs, cs, h => by
    obtain ⟨c1, c2, rfl, h1, h2⟩ := h
    rw [List.length_append, k.len h1, Reps.len h2, List.length_cons, Nat.add_mul]; omega
theorem Reps.ones {k : Kd α} {w : World} {I : Fp} : ∀ {xs : List α} {cs : List Value}, Reps k w I cs xs → cs.all one = true
  | [], cs, h => by subst h; simp
  | x :: xs, cs, h => by
    obtain ⟨c1, c2, rfl, h1, h2⟩ := h
    simp only [List.all_append, k.ones h1, Reps.ones h2, Bool.and_self]
theorem Reps.get {k : Kd α} {w : World} {I : Fp} : ∀ {xs : List α} {cs : List Value}, Reps k w I cs xs → ∀ i (hi : i < xs.length), ∃ c, k.rep w I c xs[i] ∧ ∀ j (hj : j < c.length), cs[i * k.sz + j]? = some c[j]
  | [], cs, h, i, hi => by simp at hi
  | x :: xs, cs, h, i, hi => by
    obtain ⟨c1, c2, rfl, h1, h2⟩ := h
    cases i with
    | zero =>
      refine ⟨c1, h1, fun j hj => ?_⟩
      rw [Nat.zero_mul, Nat.zero_add, List.getElem?_append_left hj, List.getElem?_eq_getElem hj]
    | succ i =>
      obtain ⟨c, hc, hj⟩ := Reps.get h2 i (by simpa using hi)
      refine ⟨c, by simpa using hc, fun j hjl => ?_⟩
      have := k.len h1
      rw [List.getElem?_append_right (by rw [this, Nat.add_mul]; omega), this, Nat.add_mul, show i * k.sz + 1 * k.sz + j - k.sz = i * k.sz + j by omega]
      exact hj j hjl
theorem Reps.mono {k : Kd α} {w w' : World} {I I' : Fp} (hI : ∀ b o, I b o → I' b o) (hk : Keeps w w' I) : ∀ {xs : List α} {cs : List Value}, Reps k w I cs xs → Reps k w' I' cs xs
  | [], cs, h => h
  | x :: xs, cs, h => by
    obtain ⟨c1, c2, rfl, h1, h2⟩ := h
    exact ⟨c1, c2, rfl, k.mono h1 hI hk, Reps.mono hI hk h2⟩
/-- what an append takes -/
def Src (P : Program) (k : Kd α) (v : Value) (ys : List α) (H : List Asr) : Prop :=
  ∀ w I O, Sat w I H O → ∃ cs, Reps k w I cs ys ∧ (∀ w', (Builtin.lenOf v).run P w' = .ok ys.length w') ∧ ∀ d, (Builtin.firstCells k.sz ys.length v).run P { w with drawn := d } = .ok ⟨cs⟩ { w with drawn := d }

/-- all cells of a slice, out of its elements -/
theorem rows_cells {k : Kd α} {w : World} {I : Fp} {b r : Nat} {xs : List α} (h : ∀ i (hi : i < xs.length), ∃ cs, k.rep w I cs xs[i] ∧ ∀ j (hj : j < cs.length), ∃ fl, at_ w b (r + i * k.sz + j) = .cell cs[j] fl) :
    ∃ cs, Reps k w I cs xs ∧ ∀ t (ht : t < cs.length), w.cell? ⟨b, r + t, none⟩ = some cs[t] := by
  induction xs generalizing r with
  | nil => exact ⟨[], rfl, fun t ht => by simp at ht⟩
  | cons x xs ih =>
    obtain ⟨c1, hr, hc⟩ := h 0 (by simp)
    obtain ⟨c2, hr2, hc2⟩ := ih (r := r + k.sz) (fun i hi => by
      obtain ⟨c, h1, h2⟩ := h (i + 1) (by simpa using hi)
      refine ⟨c, by simpa using h1, fun j hj => ?_⟩
      have := h2 j hj
      rwa [Nat.add_mul, Nat.one_mul, show r + (i * k.sz + k.sz) + j = r + k.sz + i * k.sz + j by omega] at this)
    refine ⟨c1 ++ c2, ⟨c1, c2, rfl, hr, hr2⟩, fun t ht => ?_⟩
    have hl := k.len hr
    by_cases e : t < c1.length
    · obtain ⟨fl, hf⟩ := hc t e
      rw [Nat.zero_mul, Nat.add_zero] at hf
      rw [(at_cell hf).1, List.getElem_append_left e]
    · have := hc2 (t - c1.length) (by rw [List.length_append] at ht; omega)
      rw [show r + k.sz + (t - c1.length) = r + t by omega] at this
      rw [this, List.getElem_append_right (by omega)]

theorem Src.imm {k : Kd α} {a : Option Addr} {c : Nat} {ys : List α} (hp : Pull (imm k a c ys) H G) : Src P k (.slice a ys.length c) ys H := by
  intro w I O hs
  obtain ⟨O1, O2, _, _, _, hA, _⟩ := hp.sat w I O hs
  cases ys with
  | nil => cases a with
    | none => exact ⟨[], rfl, fun _ => rfl, fun _ => rfl⟩
    | some a =>
      refine ⟨[], rfl, fun _ => rfl, fun d => ?_⟩
      show Sem.run P (loadCells a (0 * k.sz)) _ = _
      rw [Nat.zero_mul]; rfl
  | cons y ys =>
    obtain ⟨b, r, cs0, ha, _⟩ := hA.2 0 (by simp)
    subst ha
    obtain ⟨cs, hR, hc⟩ := rows_cells (k := k) (w := w) (I := I) (b := b) (r := r) (xs := y :: ys) (fun i hi => by
      obtain ⟨b', r', cs, ha, hr, hj⟩ := hA.2 i hi
      cases ha
      exact ⟨cs, hr, fun j h => (hj j h).2⟩)
    refine ⟨cs, hR, fun _ => rfl, fun d => ?_⟩
    show Sem.run P (loadCells ⟨b, r, none⟩ ((y :: ys).length * k.sz)) _ = _
    rw [← hR.len, loadCells_run (w := { w with drawn := d }) cs hc]

theorem Src.one {k : Kd α} {b : Nat} {cs : List Value} {y : α} {G' : List Asr} (hp : Pull (rp k cs y) H G) (hq : Pull (pt b 0 cs) H G') : Src P k (.slice (some ⟨b, 0, none⟩) 1 1) [y] H := by
  intro w I O hs
  obtain ⟨O1, O2, _, _, _, hA, _⟩ := hp.sat w I O hs
  obtain ⟨O3, O4, _, _, _, hB, _⟩ := hq.sat w I O hs
  refine ⟨cs, ⟨cs, [], by simp, hA, rfl⟩, fun _ => rfl, fun d => ?_⟩
  show Sem.run P (loadCells ⟨b, 0, none⟩ (1 * k.sz)) _ = _
  rw [Nat.one_mul, ← k.len hA, loadCells_run (w := { w with drawn := d }) cs fun j hj => (at_cell (hB j hj).2).1]
theorem Src.nil {k : Kd α} {c : Nat} : Src P k (.slice none 0 c) [] H := fun w I O _ => ⟨[], rfl, fun _ => rfl, fun _ => rfl⟩

/-- what is known of an element's type for a row of them to be laid -/
structure Elt (P : Program) (t e : TypeId) (sz : Nat) : Prop where
  slice : P.underlying t = some (.slice e)
  size : (P.info? e).map (·.size) = some sz
  bytes : ((P.info? e).map fun i => decide (i.bytes ≤ 65536)) = some true
  zero : ((P.info? e).bind (·.zero)).isSome = true
  noint : (match P.underlying t with | some (.int _) => true | _ => false) = false

def BIG : Nat := 1073741824

theorem growBy_le : ∀ (k newLen c : Nat), c ≤ 2 * newLen + 192 → Builtin.growBy newLen k c ≤ 2 * newLen + 192
  | 0, _, _, h => h
  | k + 1, newLen, c, h => by
    unfold Builtin.growBy
    split
    · exact h
    · exact growBy_le k newLen _ (by omega)
theorem next_le {need old : Nat} (h : old < need) : Builtin.nextslicecap need old ≤ 2 * need + 192 := by
  unfold Builtin.nextslicecap
  split
  · omega
  · split
    · omega
    · exact growBy_le 4 need old (by omega)

theorem firstCells_own {k : Kd α} {w : World} {I O : Fp} {a : Option Addr} {cap : Nat} {xs : List α} (h : (own k a cap xs).holds w I O) :
    ∃ cs, Reps k w I cs xs ∧ ∀ d, (Builtin.firstCells k.sz xs.length (.slice a xs.length cap)).run P { w with drawn := d } = .ok ⟨cs⟩ { w with drawn := d } := by
  rcases h with ⟨rfl, rfl, rfl⟩ | ⟨b, r, rfl, hl, hc, hx⟩
  · exact ⟨[], rfl, fun _ => rfl⟩
  · obtain ⟨cs, hR, hcc⟩ := rows_cells (k := k) (w := w) (I := I) (b := b) (r := r) (xs := xs) (fun i hi => by
      obtain ⟨cs, hr, hj⟩ := hx i hi
      exact ⟨cs, hr, fun j h => ⟨false, hj j h⟩⟩)
    refine ⟨cs, hR, fun d => ?_⟩
    show Sem.run P (loadCells ⟨b, r, none⟩ (xs.length * k.sz)) _ = _
    rw [← hR.len, loadCells_run (w := { w with drawn := d }) cs hcc]

/-- a fresh row of some things and spare room -/
theorem Holds.fresh {w : World} {H : List Asr} {k : Kd α} {xs : List α} {cs rest : List Value} {cap : Nat} {t : TypeId} {m : Nat} {I O : Fp} (hI : ∀ b o, I b o → b < w.heap.size) (hO : ∀ b o, O b o → b < w.heap.size) (hd : ∀ b o, I b o → O b o → False) (hs : Sat w I H O) (hR : Reps k w I cs xs)
    (hl : cs.length + rest.length = cap * k.sz) (hc : xs.length ≤ cap) : Holds { w with heap := w.heap.push (.cells ⟨cs ++ rest⟩ t), drawn := m } (own k (some ⟨w.heap.size, 0, none⟩) cap xs :: H) := by
  have hk : Keeps w { w with heap := w.heap.push (.cells ⟨cs ++ rest⟩ t), drawn := m } (fun b o => I b o ∨ O b o) := by
    refine ⟨rfl, rfl, rfl, by simp, shape_push, fun b o hf => at_push_old (w := w) ?_⟩
    rcases hf with hf | hf
    · exact hI b o hf
    · exact hO b o hf
  refine Holds.mk (I := I) (O1 := fun _ _ => False) (O2 := O) (I' := I) (O1' := fun b o => b = w.heap.size) hI hO hd hs (by simp) (by simp) (by simp) hk (fun b o x => .inl x) (fun _ _ x => x) ?_ ?_ ?_
  · intro b o x; exact .inr ⟨by omega, by simp; omega⟩
  · intro b o x y; have := hI b o x; omega
  · have hnew : ∀ t' (ht : t' < (cs ++ rest).length), at_ { w with heap := w.heap.push (.cells ⟨cs ++ rest⟩ t), drawn := m } w.heap.size t' = .cell (cs ++ rest)[t'] false := fun t' ht => at_push_new (w := w) ht
    refine .inr ⟨w.heap.size, 0, rfl, hc, fun t' ht => ⟨rfl, ?_⟩, fun i hi => ?_⟩
    · rw [Nat.zero_add]
      exact ⟨_, hnew t' (by rw [List.length_append]; omega)⟩
    · obtain ⟨c, hr, hj⟩ := hR.get i hi
      refine ⟨c, k.mono hr (fun _ _ x => x) (hk.sub fun _ _ x => .inl x), fun j hjl => ?_⟩
      have hg := hj j hjl
      have hlt : i * k.sz + j < cs.length := by
        rcases Nat.lt_or_ge (i * k.sz + j) cs.length with h | h
        · exact h
        · rw [List.getElem?_eq_none h] at hg; cases hg
      rw [Nat.zero_add, hnew _ (by rw [List.length_append]; omega), List.getElem_append_left hlt]
      rw [List.getElem?_eq_getElem hlt] at hg
      exact congrArg (Seen.cell · false) (Option.some.inj hg)

/-- an append in place -/
theorem Holds.inplace (P : Program) {w : World} {H : List Asr} {k : Kd α} {b r cap : Nat} {xs ys : List α} {cs : List Value} {I O1 O2 : Fp}
    (hI : ∀ b o, I b o → b < w.heap.size) (hO1 : ∀ b o, O1 b o → b < w.heap.size) (hO2 : ∀ b o, O2 b o → b < w.heap.size) (hd1 : ∀ b o, I b o → O1 b o → False) (hd2 : ∀ b o, I b o → O2 b o → False) (hd12 : ∀ b o, O1 b o → O2 b o → False)
    (hA : (own k (some ⟨b, r, none⟩) cap xs).holds w I O1) (hS : Sat w I H O2) (hR : Reps k w I cs ys) (hl : xs.length + ys.length ≤ cap) :
    ∃ w', (storeCells ⟨b, r + xs.length * k.sz, none⟩ cs).run P w = .ok () w' ∧ Holds w' (own k (some ⟨b, r, none⟩) cap (xs ++ ys) :: H) := by
  rcases hA with ⟨h, _⟩ | ⟨b', r', ha, hlc, hc, hx⟩
  · cases h
  cases ha
  have hlen := hR.len
  have hspace : xs.length * k.sz + cs.length ≤ cap * k.sz := by
    rw [hlen, ← Nat.add_mul]; exact Nat.mul_le_mul_right _ hl
  obtain ⟨w', hrun, h1, h2, h3, h4, hsh, h5, h6⟩ := storeCells_run P (b := b) (m := r + xs.length * k.sz) cs w 0 (fun t ht => by
    obtain ⟨v, hv⟩ := (hc (xs.length * k.sz + t) (by omega)).2
    exact ⟨v, by rw [Nat.add_zero, Nat.add_assoc]; exact hv⟩) hR.ones
  rw [Nat.add_zero] at h5 h6
  refine ⟨w', hrun, ?_⟩
  have hk : Keeps w w' (fun b o => I b o ∨ O2 b o) := by
    refine ⟨h1, h2, h3, by omega, fun b' y' hx => (hsh b').trans hx, fun b' o' hf => ?_⟩
    by_cases hb : b' = b ∧ r + xs.length * k.sz ≤ o' ∧ o' < r + xs.length * k.sz + cs.length
    · obtain ⟨rfl, ho1, ho2⟩ := hb
      have := (hc (o' - r) (by omega)).1
      rw [show r + (o' - r) = o' by omega] at this
      rcases hf with hf | hf
      · exact (hd1 _ _ hf this).elim
      · exact (hd12 _ _ this hf).elim
    · exact h5 b' o' (by omega)
  refine Holds.mk hI hO2 hd2 hS hO1 hd1 hd12 (I' := I) (O1' := O1) hk (fun _ _ x => .inl x) (fun _ _ x => x) (fun _ _ x => .inl x) hd1 ?_
  refine .inr ⟨b, r, rfl, by simpa using hl, fun t ht => ⟨(hc t ht).1, ?_⟩, fun i hi => ?_⟩
  · by_cases hin : xs.length * k.sz ≤ t ∧ t < xs.length * k.sz + cs.length
    · have := h6 (t - xs.length * k.sz) (by omega)
      rw [show r + xs.length * k.sz + (t - xs.length * k.sz) = r + t by omega] at this
      exact ⟨_, this⟩
    · rw [h5 b (r + t) (by omega)]; exact (hc t ht).2
  · by_cases hix : i < xs.length
    · obtain ⟨c, hr, hj⟩ := hx i hix
      rw [List.getElem_append_left hix]
      refine ⟨c, k.mono hr (fun _ _ x => x) (hk.sub fun _ _ x => .inl x), fun j hjl => ?_⟩
      have hlt : i * k.sz + j < xs.length * k.sz := by
        have := k.len hr
        have h1 : (i + 1) * k.sz ≤ xs.length * k.sz := Nat.mul_le_mul_right _ (by omega)
        rw [Nat.add_mul, Nat.one_mul] at h1
        omega
      rw [h5 b _ (by omega)]
      exact hj j hjl
    · have hiy : i - xs.length < ys.length := by rw [List.length_append] at hi; omega
      obtain ⟨c, hr, hj⟩ := hR.get (i - xs.length) hiy
      rw [List.getElem_append_right (by omega)]
      refine ⟨c, k.mono hr (fun _ _ x => x) (hk.sub fun _ _ x => .inl x), fun j hjl => ?_⟩
      have hg := hj j hjl
      have hlt : (i - xs.length) * k.sz + j < cs.length := by
        rcases Nat.lt_or_ge ((i - xs.length) * k.sz + j) cs.length with h | h
        · exact h
        · rw [List.getElem?_eq_none h] at hg; cases hg
      rw [List.getElem?_eq_getElem hlt] at hg
      have := h6 _ hlt
      have he : r + xs.length * k.sz + ((i - xs.length) * k.sz + j) = r + i * k.sz + j := by
        rw [Nat.sub_mul]
        have : xs.length * k.sz ≤ i * k.sz := Nat.mul_le_mul_right _ (by omega)
        omega
      rw [he] at this
      rw [this]
      exact congrArg (Seen.cell · false) (Option.some.inj hg)

theorem zeroCells_len {z : Array Value} {m : Nat} : (Builtin.zeroCells z m).size = m * z.size := by simp [Builtin.zeroCells]

theorem Reps.append {k : Kd α} {w : World} {I : Fp} : ∀ {xs ys : List α} {cs ds : List Value}, Reps k w I cs xs → Reps k w I ds ys → Reps k w I (cs ++ ds) (xs ++ ys)
  | [], ys, cs, ds, h, h' => by subst h; exact h'
  | x :: xs, ys, cs, ds, h, h' => by
    obtain ⟨c1, c2, rfl, h1, h2⟩ := h
    exact ⟨c1, c2 ++ ds, by simp, h1, Reps.append h2 h'⟩

theorem append_run {T E : TypeId} {k : Kd α} {sv : Value} {a : Option Addr} {cap sz : Nat} {xs ys : List α} (he : Elt P T E sz) (hsz : k.sz = sz) (hz0 : ((P.info? E).bind (·.zero)).map (·.cells.size) = some sz)
    (hsrc : Src P k sv ys G) (hb : xs.length + ys.length ≤ BIG) {w : World} (hw1 : Holds w (own k a cap xs :: G)) :
    ∃ a' cap' w', (Builtin.append_ ⟨[T, T]⟩ T ⟨[.slice a xs.length cap, sv]⟩).run P w = .ok (.slice a' (xs ++ ys).length cap') w' ∧ Holds w' (own k a' cap' (xs ++ ys) :: G) := by
  subst hsz
  obtain ⟨I, O1, O2, hI, hO1, hO2, hd1, hd2, hd12, hA, hS⟩ := hw1.upd
  obtain ⟨cs, hR, hlen, hfirst⟩ := hsrc w I O2 hS
  obtain ⟨inf, hi⟩ : ∃ inf, P.info? E = some inf := by
    have := he.size
    cases h : P.info? E with
    | none => rw [h] at this; cases this
    | some i => exact ⟨i, rfl⟩
  have hsize : inf.size = k.sz := by have := he.size; rw [hi] at this; simpa using this
  have hbytes : inf.bytes ≤ 65536 := by have := he.bytes; rw [hi] at this; simpa using this
  obtain ⟨z, hz⟩ : ∃ z, inf.zero = some z := by
    have := he.zero; rw [hi] at this
    exact Option.isSome_iff_exists.1 this
  have hzl : z.cells.size = k.sz := by rw [hi] at hz0; simp only [Option.bind_some, hz, Option.map_some, Option.some.injEq] at hz0; exact hz0
  have hrs : ∀ w, (sizeOf E).run P w = .ok k.sz w := fun w => by simp [sizeOf, typeInfo, program, hi, Sem.run_bind, Sem.run, hsize]
  have hrt : ∀ w, (typeInfo E).run P w = .ok inf w := fun w => by simp [typeInfo, program, hi, Sem.run_bind, Sem.run]
  have hrz : ∀ w, (zeroValue E).run P w = .ok z w := fun w => by simp [zeroValue, typeInfo, program, hi, Sem.run_bind, Sem.run, hz]
  have hnt : ∀ w, (do pure ((← underlying T) matches .int _) : Sem Bool).run P w = .ok false w := fun w => by
    rw [Sem.run_bind, run_underlying he.slice]; rfl
  unfold BIG at hb
  by_cases hcap : xs.length + ys.length ≤ cap
  · -- in place
    cases a with
    | none =>
      rcases hA with ⟨_, rfl, rfl⟩ | ⟨b, r, ha, _⟩
      · have hy : ys = [] := by simpa using hcap
        subst hy
        refine ⟨none, 0, w, ?_, hw1⟩
        unfold Builtin.append_
        simp only [List.getElem?_toArray, List.getElem?_cons_zero, List.getElem?_cons_succ, Sem.run_bind, run_underlying he.slice, Result.andThen_ok, hrs, Sem.run_pure, Bool.false_eq_true, if_false, hlen]
        simp only [List.length_nil, Nat.add_zero, Nat.le_refl, if_true, Sem.run_bind, Bool.not_false]
        rw [show Sem.run P (Builtin.firstCells k.sz 0 sv) w = _ from hfirst w.drawn]
        rfl
      · cases ha
    | some a =>
      rcases hA with ⟨h, _⟩ | ⟨b, r, ha, hlc, hc, hx⟩
      · cases h
      · cases ha
        obtain ⟨w', hrun, hw'⟩ := Holds.inplace P (xs := xs) hI hO1 hO2 hd1 hd2 hd12 (.inr ⟨b, r, rfl, hlc, hc, hx⟩) hS hR hcap
        refine ⟨some ⟨b, r, none⟩, cap, w', ?_, hw'⟩
        unfold Builtin.append_
        simp only [List.getElem?_toArray, List.getElem?_cons_zero, List.getElem?_cons_succ, Sem.run_bind, run_underlying he.slice, Result.andThen_ok, hrs, Sem.run_pure, Bool.false_eq_true, if_false, hlen]
        simp only [hcap, if_true, Sem.run_bind, Bool.not_false, show Sem.run P (Builtin.firstCells k.sz ys.length sv) w = _ from hfirst w.drawn, Result.andThen_ok, Addr.add_lit, hrun, Sem.run_pure, List.length_append]
  · have hq : ((Question.appendCap (xs.length + ys.length) cap E).forced) = false := rfl
    obtain ⟨old, hRo, hfo⟩ := firstCells_own (P := P) hA
    have hnx := next_le (Nat.lt_of_not_le hcap)
    have hbig : ¬ (Builtin.nextslicecap (xs.length + ys.length) cap * inf.bytes > 2 ^ 48) := by
      have : Builtin.nextslicecap (xs.length + ys.length) cap * inf.bytes ≤ (2 * 1073741824 + 192) * 65536 := Nat.mul_le_mul (by omega) hbytes
      omega
    have hmax : ¬ ((((xs.length + ys.length : Nat)) : Int) > IntKind.i64.max ∧ (False ∨ inf.bytes = 0)) := by
      rw [IntKind.max_i64]; omega
    let newCap := (Question.appendCap (xs.length + ys.length) cap E).cut (w.tape w.drawn (Question.appendCap (xs.length + ys.length) cap E))
    have hnc : xs.length + ys.length ≤ newCap := Nat.le_add_right _ _
    refine ⟨some ⟨w.heap.size, 0, none⟩, newCap, { w with heap := w.heap.push (.cells ⟨old ++ cs ++ (Builtin.zeroCells z.cells (newCap - (xs.length + ys.length))).toList⟩ E), drawn := w.drawn + 1 }, ?_, ?_⟩
    · unfold Builtin.append_
      simp only [List.getElem?_toArray, List.getElem?_cons_zero, List.getElem?_cons_succ, Sem.run_bind, run_underlying he.slice, Result.andThen_ok, hrs, Sem.run_pure, Bool.false_eq_true, if_false, hlen]
      rw [if_neg hcap]
      simp only [Sem.run_bind, hrt, Result.andThen_ok]
      rw [if_neg hmax]
      simp only [Sem.run_bind, hrt, Result.andThen_ok]
      rw [if_neg hbig]
      have hch : (choose (Question.appendCap (xs.length + ys.length) cap E)).run P w = .ok newCap { w with drawn := w.drawn + 1 } := rfl
      have hask : ∀ m w, (askRoom m).run P w = .ok () w := fun m w => by unfold askRoom; split <;> rfl
      simp only [Sem.run_bind, hch, hrt, Result.andThen_ok, hask, hfo, hfirst, hrz]
      rw [List.length_append]
      simp only [newRow, newObj, Sem.run_bind, Sem.run, Result.andThen_ok, Sem.run_pure]
      have hf2 : Sem.run P (if (!false) = true then Builtin.firstCells k.sz ys.length sv else if ys.length * k.sz = 0 then pure #[] else do
          let z ← zeroValue E
          pure (Builtin.zeroCells z.cells ys.length)) { w with drawn := w.drawn + 1 } = .ok ⟨cs⟩ { w with drawn := w.drawn + 1 } := by
        rw [if_pos (by rfl)]; exact hfirst _
      rw [hf2, Result.andThen_ok]
      congr 4
      apply Array.ext'
      simp
    · have hI' := hI
      have hrl : (old ++ cs).length + (Builtin.zeroCells z.cells (newCap - (xs.length + ys.length))).toList.length = newCap * k.sz := by
        have hz1 : (Builtin.zeroCells z.cells (newCap - (xs.length + ys.length))).toList.length = (newCap - (xs.length + ys.length)) * k.sz := by rw [← hzl]; exact zeroCells_len
        rw [hz1, List.length_append, hRo.len, hR.len, ← Nat.add_mul, ← Nat.add_mul]
        congr 1; omega
      have := Holds.fresh (k := k) (xs := xs ++ ys) (t := E) (m := w.drawn + 1) hI hO2 hd2 hS (hRo.append hR) hrl (by rw [List.length_append]; exact hnc)
      simpa using this

theorem st_append {T E : TypeId} {k : Kd α} {x y : Operand} {sv : Value} {a : Option Addr} {cap sz : Nat} {xs ys : List α} (hop : o.op = .call { callee := .builtin .append, args := ⟨[x, y]⟩, argTypes := ⟨[T, T]⟩ })
    (hx : ev fr x = some (.slice a xs.length cap)) (hy : ev fr y = some sv) (he : Elt P T E sz) (hsz : k.sz = sz) (hz0 : ((P.info? E).bind (·.zero)).map (·.cells.size) = some sz)
    (hp : Pull (own k a cap xs) H G) (hsrc : Src P k sv ys G) (hb : xs.length + ys.length ≤ BIG) :
    Step P o n fr H (fun v H' => ∃ a' cap', v = .slice a' (xs ++ ys).length cap' ∧ H' = own k a' cap' (xs ++ ys) :: G) := by
  intro act w hk hw
  have hm : (Array.mk [x, y]).map act.eval = #[Value.slice a xs.length cap, sv] := args_array hk (by simp [hx, hy])
  obtain ⟨a', cap', w', hrun, hw'⟩ := append_run (a := a) (cap := cap) he hsz hz0 hsrc hb (hp.imp w hw)
  have hrun' : (Builtin.append_ #[T, T] o.type #[Value.slice a xs.length cap, sv]).run P w = .ok (.slice a' (xs ++ ys).length cap') w' := hrun
  simp only [execOp, hop, resolve, hm, Sem.run_bind, Sem.run_pure, Result.andThen_ok, invoke, builtin]
  rw [show (Array.mk [T, T]) = #[T, T] from rfl, hrun']
  exact ⟨_, ⟨a', cap', rfl, rfl⟩, hw'⟩
end
end Go.WG

set_option linter.unusedVariables false
namespace Go.WG
open Go
section
variable {P : Program} {n : Nat} {fr : Frm} {H G : List Asr} {o : Oper} {K : Act → World → Prop}
theorem bindE {α β : Type} {x : Option α} {f : α → Option β} {r : β} (h : x.bind f = some r) : ∃ y, x = some y ∧ f y = some r := by
  cases x with
  | none => cases h
  | some y => exact ⟨y, rfl, h⟩
theorem ifT {α : Type} {t : Bool} {x y : Option α} {r : α} (hc : t = true) (h : (if t = true then x else y) = some r) : x = some r := by
  rw [if_pos hc] at h; exact h
theorem ifF {α : Type} {t : Bool} {x y : Option α} {r : α} (hc : t = false) (h : (if t = true then x else y) = some r) : y = some r := by
  rw [if_neg (by simp [hc])] at h; exact h
/-- a bound on what is made: beyond it nothing is told -/
def lim {α : Type} (p : Prop) [Decidable p] (x : Option α) : Option α := if p then x else none
theorem limE {α : Type} {p : Prop} [Decidable p] {x : Option α} {r : α} (h : lim p x = some r) : p ∧ x = some r := by
  unfold lim at h
  split at h
  · exact ⟨by assumption, h⟩
  · cases h
/-- an element, where there is one -/
def ix {α : Type} (xs : List α) (i : Int) : Option α := if 0 ≤ i then xs[i.toNat]? else none
theorem ixE {α : Type} {xs : List α} {i : Int} {x : α} (h : ix xs i = some x) : 0 ≤ i ∧ i.toNat < xs.length ∧ xs[i.toNat]? = some x := by
  unfold ix at h
  split at h
  · refine ⟨by assumption, ?_, h⟩
    rcases Nat.lt_or_ge i.toNat xs.length with h' | h'
    · exact h'
    · rw [List.getElem?_eq_none h'] at h; cases h
  · cases h
theorem Tri.intro0 {f : FuncId} {fn : Func} {c : Code} {args : List Value} {Φ : Value → List Asr → Prop} (hf : P.funcs[f]? = some fn) (hb : fn.body = some c) (hn : fn.ntmps = n) (hl : Nat.ble args.length n = true)
    (h : ∀ F, To n (c.wp P (bodyPost P fn (fun e w' => ∃ v H', e = .returned v ∧ Φ v H' ∧ Holds w' (H' ++ F)))) (argf 0 args) (F)) : Tri P f args [] Φ := Tri.intro (H1 := fun F => F) hf hb hn hl rfl (fun _ => rfl) h
theorem To.app0 {F : List Asr} (h : To n K fr (F)) : To n K fr ([] ++ F) := h
theorem Tri.intro1 {f : FuncId} {fn : Func} {c : Code} {args : List Value} {c0 : Asr} {Φ : Value → List Asr → Prop} (hf : P.funcs[f]? = some fn) (hb : fn.body = some c) (hn : fn.ntmps = n) (hl : Nat.ble args.length n = true)
    (h : ∀ F, To n (c.wp P (bodyPost P fn (fun e w' => ∃ v H', e = .returned v ∧ Φ v H' ∧ Holds w' (H' ++ F)))) (argf 0 args) (c0 :: F)) : Tri P f args [c0] Φ := Tri.intro (H1 := fun F => c0 :: F) hf hb hn hl rfl (fun _ => rfl) h
theorem To.app1 {c0 : Asr} {F : List Asr} (h : To n K fr (c0 :: F)) : To n K fr ([c0] ++ F) := h
theorem Tri.intro2 {f : FuncId} {fn : Func} {c : Code} {args : List Value} {c0 c1 : Asr} {Φ : Value → List Asr → Prop} (hf : P.funcs[f]? = some fn) (hb : fn.body = some c) (hn : fn.ntmps = n) (hl : Nat.ble args.length n = true)
    (h : ∀ F, To n (c.wp P (bodyPost P fn (fun e w' => ∃ v H', e = .returned v ∧ Φ v H' ∧ Holds w' (H' ++ F)))) (argf 0 args) (c0 :: c1 :: F)) : Tri P f args [c0, c1] Φ := Tri.intro (H1 := fun F => c0 :: c1 :: F) hf hb hn hl rfl (fun _ => rfl) h
theorem To.app2 {c0 c1 : Asr} {F : List Asr} (h : To n K fr (c0 :: c1 :: F)) : To n K fr ([c0, c1] ++ F) := h
theorem Tri.intro3 {f : FuncId} {fn : Func} {c : Code} {args : List Value} {c0 c1 c2 : Asr} {Φ : Value → List Asr → Prop} (hf : P.funcs[f]? = some fn) (hb : fn.body = some c) (hn : fn.ntmps = n) (hl : Nat.ble args.length n = true)
    (h : ∀ F, To n (c.wp P (bodyPost P fn (fun e w' => ∃ v H', e = .returned v ∧ Φ v H' ∧ Holds w' (H' ++ F)))) (argf 0 args) (c0 :: c1 :: c2 :: F)) : Tri P f args [c0, c1, c2] Φ := Tri.intro (H1 := fun F => c0 :: c1 :: c2 :: F) hf hb hn hl rfl (fun _ => rfl) h
theorem To.app3 {c0 c1 c2 : Asr} {F : List Asr} (h : To n K fr (c0 :: c1 :: c2 :: F)) : To n K fr ([c0, c1, c2] ++ F) := h
theorem Tri.intro4 {f : FuncId} {fn : Func} {c : Code} {args : List Value} {c0 c1 c2 c3 : Asr} {Φ : Value → List Asr → Prop} (hf : P.funcs[f]? = some fn) (hb : fn.body = some c) (hn : fn.ntmps = n) (hl : Nat.ble args.length n = true)
    (h : ∀ F, To n (c.wp P (bodyPost P fn (fun e w' => ∃ v H', e = .returned v ∧ Φ v H' ∧ Holds w' (H' ++ F)))) (argf 0 args) (c0 :: c1 :: c2 :: c3 :: F)) : Tri P f args [c0, c1, c2, c3] Φ := Tri.intro (H1 := fun F => c0 :: c1 :: c2 :: c3 :: F) hf hb hn hl rfl (fun _ => rfl) h
theorem To.app4 {c0 c1 c2 c3 : Asr} {F : List Asr} (h : To n K fr (c0 :: c1 :: c2 :: c3 :: F)) : To n K fr ([c0, c1, c2, c3] ++ F) := h
theorem Tri.intro5 {f : FuncId} {fn : Func} {c : Code} {args : List Value} {c0 c1 c2 c3 c4 : Asr} {Φ : Value → List Asr → Prop} (hf : P.funcs[f]? = some fn) (hb : fn.body = some c) (hn : fn.ntmps = n) (hl : Nat.ble args.length n = true)
    (h : ∀ F, To n (c.wp P (bodyPost P fn (fun e w' => ∃ v H', e = .returned v ∧ Φ v H' ∧ Holds w' (H' ++ F)))) (argf 0 args) (c0 :: c1 :: c2 :: c3 :: c4 :: F)) : Tri P f args [c0, c1, c2, c3, c4] Φ := Tri.intro (H1 := fun F => c0 :: c1 :: c2 :: c3 :: c4 :: F) hf hb hn hl rfl (fun _ => rfl) h
theorem To.app5 {c0 c1 c2 c3 c4 : Asr} {F : List Asr} (h : To n K fr (c0 :: c1 :: c2 :: c3 :: c4 :: F)) : To n K fr ([c0, c1, c2, c3, c4] ++ F) := h
theorem Tri.intro6 {f : FuncId} {fn : Func} {c : Code} {args : List Value} {c0 c1 c2 c3 c4 c5 : Asr} {Φ : Value → List Asr → Prop} (hf : P.funcs[f]? = some fn) (hb : fn.body = some c) (hn : fn.ntmps = n) (hl : Nat.ble args.length n = true)
    (h : ∀ F, To n (c.wp P (bodyPost P fn (fun e w' => ∃ v H', e = .returned v ∧ Φ v H' ∧ Holds w' (H' ++ F)))) (argf 0 args) (c0 :: c1 :: c2 :: c3 :: c4 :: c5 :: F)) : Tri P f args [c0, c1, c2, c3, c4, c5] Φ := Tri.intro (H1 := fun F => c0 :: c1 :: c2 :: c3 :: c4 :: c5 :: F) hf hb hn hl rfl (fun _ => rfl) h
theorem To.app6 {c0 c1 c2 c3 c4 c5 : Asr} {F : List Asr} (h : To n K fr (c0 :: c1 :: c2 :: c3 :: c4 :: c5 :: F)) : To n K fr ([c0, c1, c2, c3, c4, c5] ++ F) := h
theorem Tri.intro7 {f : FuncId} {fn : Func} {c : Code} {args : List Value} {c0 c1 c2 c3 c4 c5 c6 : Asr} {Φ : Value → List Asr → Prop} (hf : P.funcs[f]? = some fn) (hb : fn.body = some c) (hn : fn.ntmps = n) (hl : Nat.ble args.length n = true)
    (h : ∀ F, To n (c.wp P (bodyPost P fn (fun e w' => ∃ v H', e = .returned v ∧ Φ v H' ∧ Holds w' (H' ++ F)))) (argf 0 args) (c0 :: c1 :: c2 :: c3 :: c4 :: c5 :: c6 :: F)) : Tri P f args [c0, c1, c2, c3, c4, c5, c6] Φ := Tri.intro (H1 := fun F => c0 :: c1 :: c2 :: c3 :: c4 :: c5 :: c6 :: F) hf hb hn hl rfl (fun _ => rfl) h
theorem To.app7 {c0 c1 c2 c3 c4 c5 c6 : Asr} {F : List Asr} (h : To n K fr (c0 :: c1 :: c2 :: c3 :: c4 :: c5 :: c6 :: F)) : To n K fr ([c0, c1, c2, c3, c4, c5, c6] ++ F) := h
theorem Tri.intro8 {f : FuncId} {fn : Func} {c : Code} {args : List Value} {c0 c1 c2 c3 c4 c5 c6 c7 : Asr} {Φ : Value → List Asr → Prop} (hf : P.funcs[f]? = some fn) (hb : fn.body = some c) (hn : fn.ntmps = n) (hl : Nat.ble args.length n = true)
    (h : ∀ F, To n (c.wp P (bodyPost P fn (fun e w' => ∃ v H', e = .returned v ∧ Φ v H' ∧ Holds w' (H' ++ F)))) (argf 0 args) (c0 :: c1 :: c2 :: c3 :: c4 :: c5 :: c6 :: c7 :: F)) : Tri P f args [c0, c1, c2, c3, c4, c5, c6, c7] Φ := Tri.intro (H1 := fun F => c0 :: c1 :: c2 :: c3 :: c4 :: c5 :: c6 :: c7 :: F) hf hb hn hl rfl (fun _ => rfl) h
theorem To.app8 {c0 c1 c2 c3 c4 c5 c6 c7 : Asr} {F : List Asr} (h : To n K fr (c0 :: c1 :: c2 :: c3 :: c4 :: c5 :: c6 :: c7 :: F)) : To n K fr ([c0, c1, c2, c3, c4, c5, c6, c7] ++ F) := h
end
end Go.WG

set_option linter.unusedVariables false
set_option linter.unusedSimpArgs false
namespace Go.WG
open Go
section
variable {P : Program} {n : Nat} {fr : Frm} {H G : List Asr} {o : Oper} {K : Act → World → Prop}

theorem To.split (s : Nat) {t : Bool} (hv : fget fr s = some (.bool t)) (ht : t = true → To n K ((s, .bool true) :: fr) H) (hf : t = false → To n K ((s, .bool false) :: fr) H) : To n K fr H := by
  intro a w ha hw
  cases t with
  | true =>
    refine ht rfl a w ⟨ha.size, ha.defers, fun i v h => ?_⟩ hw
    simp only [fget] at h
    cases hb : Nat.beq s i with
    | true =>
      rw [hb] at h
      have := Nat.eq_of_beq_eq_true hb
      subst this
      simp only [Option.some.injEq] at h
      rw [← h]; exact ha.val _ _ hv
    | false => rw [hb] at h; exact ha.val _ _ h
  | false =>
    refine hf rfl a w ⟨ha.size, ha.defers, fun i v h => ?_⟩ hw
    simp only [fget] at h
    cases hb : Nat.beq s i with
    | true =>
      rw [hb] at h
      have := Nat.eq_of_beq_eq_true hb
      subst this
      simp only [Option.some.injEq] at h
      rw [← h]; exact ha.val _ _ hv
    | false => rw [hb] at h; exact ha.val _ _ h

/-- parts laid over cells -/
inductive Fill (places : List (Nat × Nat)) : List Value → List (Nat × Value) → List Value → Prop
  | nil {vs} : Fill places vs [] vs
  | cons {vs vs' vs'' i v us off size rest} : places[i]? = some (off, size) → v.cells = ⟨us⟩ → us.length = size → Put vs off us vs' → Nat.ble (off + size) vs.length = true → Fill places vs' rest vs'' → Fill places vs ((i, v) :: rest) vs''

theorem put_fold {vs us vs' : List Value} {j : Nat} (h : Put vs j us vs') (hl : j + us.length ≤ vs.length) : (Array.mk us).zipIdx.foldl (fun (cs : Array Value) (x : Value × Nat) => cs.setIfInBounds (j + x.2) x.1) ⟨vs⟩ = ⟨vs'⟩ := by
  obtain ⟨h1, _, h3⟩ := h.get
  have key : ∀ (us : List Value) (k : Nat) (cs : Array Value), k + us.length ≤ cs.size →
      ((us.zipIdx k).foldl (fun (cs : Array Value) (x : Value × Nat) => cs.setIfInBounds x.2 x.1) cs).size = cs.size ∧
      ∀ t, ((us.zipIdx k).foldl (fun (cs : Array Value) (x : Value × Nat) => cs.setIfInBounds x.2 x.1) cs)[t]? = if k ≤ t ∧ t < k + us.length then us[t - k]? else cs[t]? := by
    intro us
    induction us with
    | nil => intro k cs _; exact ⟨rfl, fun t => by rw [if_neg (by simp)]; rfl⟩
    | cons u us ih =>
      intro k cs hk
      simp only [List.zipIdx_cons, List.foldl_cons, List.length_cons] at hk ⊢
      obtain ⟨i1, i2⟩ := ih (k + 1) (cs.setIfInBounds k u) (by simp; omega)
      refine ⟨by simpa using i1, fun t => ?_⟩
      rw [i2 t]
      by_cases e : t = k
      · subst e
        rw [if_neg (by omega), if_pos (by omega), Array.getElem?_setIfInBounds_self_of_lt (by omega)]
        simp
      · by_cases h : k + 1 ≤ t ∧ t < k + 1 + us.length
        · rw [if_pos h, if_pos (by omega), show t - k = (t - (k + 1)) + 1 by omega]; simp
        · rw [if_neg h, if_neg (by omega), Array.getElem?_setIfInBounds_ne (by omega)]
  have hz : (Array.mk us).zipIdx.foldl (fun (cs : Array Value) (x : Value × Nat) => cs.setIfInBounds (j + x.2) x.1) ⟨vs⟩ = (us.zipIdx j).foldl (fun (cs : Array Value) (x : Value × Nat) => cs.setIfInBounds x.2 x.1) ⟨vs⟩ := by
    rw [← Array.foldl_toList, show (Array.mk us).zipIdx.toList = us.zipIdx from by simp]
    have : ∀ (us : List Value) (k : Nat) (cs : Array Value), (us.zipIdx k).foldl (fun (cs : Array Value) (x : Value × Nat) => cs.setIfInBounds (j + x.2) x.1) cs = (us.zipIdx (j + k)).foldl (fun (cs : Array Value) (x : Value × Nat) => cs.setIfInBounds x.2 x.1) cs := by
      intro us
      induction us with
      | nil => intro k cs; rfl
      | cons u us ih => intro k cs; simp only [List.zipIdx_cons, List.foldl_cons]; rw [ih]; rfl
    exact this us 0 ⟨vs⟩
  rw [hz]
  obtain ⟨k1, k2⟩ := key us j ⟨vs⟩ hl
  apply Array.ext_getElem?
  intro t
  rw [k2 t, show (Array.mk vs')[t]? = vs'[t]? from List.getElem?_toArray, h3 t, show (Array.mk vs)[t]? = vs[t]? from List.getElem?_toArray]

theorem Fill.run {places : List (Nat × Nat)} {vs vs'' : List Value} {parts : List (Nat × Value)} (h : Fill places vs parts vs'') : Instr.fill (fun i => (Array.mk places)[i]?) ⟨vs⟩ parts = some ⟨vs''⟩ := by
  induction h with
  | nil => rfl
  | @cons vs vs' vs'' i v us off size rest hp hv hl hput hle _ ih =>
    have hle := Nat.le_of_ble_eq_true hle
    have hvs : v.cells.size = us.length := by rw [hv]; rfl
    have hput2 := put_fold hput (by omega)
    unfold Instr.fill
    rw [show (Array.mk places)[i]? = some (off, size) from by rw [← hp]; exact List.getElem?_toArray]
    simp only
    rw [if_neg]
    · rw [hv, hput2]; exact ih
    · rw [hvs]
      have : (Array.mk vs).size = vs.length := rfl
      rw [this]
      simp; omega

/-- a struct's type: where its parts lie -/
structure Stc (P : Program) (t : TypeId) (places : List (Nat × Nat)) : Prop where
  fields : ((P.underlying t).bind fun | .struct fs => some (fs.toList.map fun f => (P.info? f.type).map fun i => (f.offset, i.size)) | _ => none) = some (places.map some)

theorem Stc.run {t : TypeId} {places : List (Nat × Nat)} (h : Stc P t places) : ∃ fs, P.underlying t = some (.struct fs) ∧ ∀ w, (fs.mapM fun f => do pure (f.offset, ← sizeOf f.type) : Sem (Array (Nat × Nat))).run P w = .ok ⟨places⟩ w := by
  have h := h.fields
  cases hu : P.underlying t with
  | none => rw [hu] at h; cases h
  | some d =>
    rw [hu] at h
    cases d with
    | struct fs =>
      refine ⟨fs, rfl, fun w => ?_⟩
      simp only [Option.bind_some, Option.some.injEq] at h
      have key : ∀ (l : List Field) (ps : List (Nat × Nat)), (l.map fun f => (P.info? f.type).map fun i => (f.offset, i.size)) = ps.map some →
          (l.mapM fun f => do pure (f.offset, ← sizeOf f.type) : Sem (List (Nat × Nat))).run P w = .ok ps w := by
        intro l
        induction l with
        | nil => intro ps h; cases ps with
          | nil => rfl
          | cons => simp at h
        | cons f l ih => intro ps h; cases ps with
          | nil => simp at h
          | cons p ps =>
            simp only [List.map_cons, List.cons.injEq] at h
            cases hi : P.info? f.type with
            | none => rw [hi] at h; simp at h
            | some i =>
              rw [hi] at h
              simp only [Option.map_some, Option.some.injEq] at h
              have hs : ∀ w, (sizeOf f.type).run P w = .ok i.size w := fun w => by simp [sizeOf, typeInfo, program, hi, Sem.run_bind, Sem.run]
              rw [List.mapM_cons]
              simp only [Sem.run_bind, hs, Result.andThen_ok, Sem.run_pure]
              rw [ih ps h.2]
              simp only [Result.andThen_ok, h.1]
      obtain ⟨l⟩ := fs
      rw [show (Array.mk l) = l.toArray from rfl, List.mapM_toArray, Sem.run_map, key l places h]
      rfl
    | _ => cases h

theorem parts_eval {a : Act} (hk : Knows n a fr) : ∀ (parts : List (Nat × Operand)) (vs : List (Nat × Value)), parts.map (fun p => (ev fr p.2).map fun v => (p.1, v)) = vs.map some → parts.map (fun p => (p.1, a.eval p.2)) = vs
  | [], vs, h => by cases vs with
    | nil => rfl
    | cons => simp at h
  | p :: ps, vs, h => by cases vs with
    | nil => simp at h
    | cons v vs =>
      simp only [List.map_cons, List.cons.injEq] at h
      cases he : ev fr p.2 with
      | none => rw [he] at h; simp at h
      | some u =>
        rw [he] at h
        simp only [Option.map_some, Option.some.injEq] at h
        simp only [List.map_cons, parts_eval hk ps vs h.2, hk.eval he, h.1]

theorem pe_build {t : TypeId} {parts : List (Nat × Operand)} {vs : List (Nat × Value)} {places : List (Nat × Nat)} {zs cells : List Value} (hf : Fill places zs vs cells) (hop : o.op = .build t ⟨parts⟩) (hz : Zero P t zs) (hs : Stc P t places)
    (hx : parts.map (fun p => (ev fr p.2).map fun v => (p.1, v)) = vs.map some) : PureEval P o n fr H (.agg ⟨cells⟩) := by
  intro a w hk hw
  obtain ⟨fs, hu, hm⟩ := hs.run
  obtain ⟨z, hzr, hzc⟩ := hz.run w
  have hp : ((Array.mk parts).map fun (i, x) => (i, a.eval x)) = (Array.mk vs) := by
    rw [show Array.mk parts = parts.toArray from rfl, List.map_toArray]
    exact congrArg List.toArray (parts_eval hk parts vs hx)
  simp only [execOp, hop]
  rw [Sem.run_bind, hp]
  have : (Instr.build t ⟨vs⟩).run P w = .ok (.agg ⟨cells⟩) w := by
    unfold Instr.build
    rw [Sem.run_bind, hzr, Result.andThen_ok, Sem.run_bind, run_underlying hu, Result.andThen_ok]
    simp only
    rw [Sem.run_bind, hm, Result.andThen_ok, hzc]
    have := hf.run
    rw [show Instr.fill (fun x => (Array.mk places)[x]?) (Array.mk zs) (Array.mk vs).toList = some ⟨cells⟩ from this]
    rfl
  rw [this]; rfl

/-- a row of one thing -/
theorem st_row1 {t e : TypeId} {x : Operand} {v : Value} {us : List Value} {agg : Bool} {size : Nat} (hop : o.op = .buildSlice t 1 ⟨[(0, x)]⟩) (hx : ev fr x = some v) (hv : v.cells = ⟨us⟩) (hu : P.underlying t = some (.slice e)) (ht : Ty P e agg size)
    (hz : (((P.info? e).bind (·.zero)).map (·.cells.size)) = some size) (hl : us.length = size) (hs : Nat.ble size 1000 = true) (h0 : Nat.beq size 0 = false) :
    Step P o n fr H (fun u H' => ∃ b, u = .slice (some ⟨b, 0, none⟩) 1 1 ∧ H' = pt b 0 us :: H) := by
  intro a w hk hw
  have hp : ((Array.mk [(0, x)]).map fun (i, x) => (i, a.eval x)) = #[(0, v)] := by
    rw [show (Array.mk [(0, x)]) = [(0, x)].toArray from rfl, List.map_toArray]
    simp only [List.map_cons, List.map_nil, hk.eval hx]
  have hsz := Nat.le_of_ble_eq_true hs
  have hne : ¬ size = 0 := fun e => by subst e; simp at h0
  simp only [execOp, hop, hp]
  obtain ⟨z, hzr, hzl⟩ : ∃ z, (∀ w, (zeroValue e).run P w = .ok z w) ∧ z.cells.size = size := by
    cases hi : P.info? e with
    | none => rw [hi] at hz; cases hz
    | some i =>
      rw [hi] at hz
      simp only [Option.bind_some] at hz
      cases hzz : i.zero with
      | none => rw [hzz] at hz; cases hz
      | some z =>
        rw [hzz] at hz
        exact ⟨z, fun w => by simp [zeroValue, typeInfo, program, hi, Sem.run_bind, Sem.run, hzz], by simpa using hz⟩
  have hfill : ∀ cs : Array Value, cs.size = size → Instr.fill (fun i => some (i * size, size)) cs [(0, v)] = some ⟨us⟩ := by
    intro cs hcs
    obtain ⟨cs⟩ := cs
    unfold Instr.fill
    simp only [Nat.zero_mul]
    rw [if_neg]
    · unfold Instr.fill
      have hput : ∀ (us cs : List Value), us.length = cs.length → Put cs 0 us us := by
        intro us
        induction us with
        | nil => intro cs h; cases cs with
          | nil => exact .z
          | cons => simp at h
        | cons u us ih => intro cs h; cases cs with
          | nil => simp at h
          | cons c cs => exact .t (ih cs (by simpa using h))
      have hcl : cs.length = size := hcs
      have := put_fold (hput us cs (by omega)) (by omega)
      rw [hv]
      simp only [Nat.zero_add] at this ⊢
      rw [this]
    · rw [hv]
      have : (Array.mk us).size = us.length := rfl
      simp [this, hl]
      rw [show cs.length = size from hcs]; omega
  have hrun : (Instr.buildSlice t 1 #[(0, v)]).run P w = .ok (.slice (some ⟨w.heap.size, 0, none⟩) 1 1) { w with heap := w.heap.push (.cells ⟨us⟩ e) } := by
    unfold Instr.buildSlice
    rw [Sem.run_bind, run_underlying hu, Result.andThen_ok]
    simp only
    rw [Sem.run_bind, ht.sizeOf, Result.andThen_ok]
    rw [if_neg (by omega)]
    rw [if_neg (by omega)]
    simp only [Sem.run_bind, hzr, Result.andThen_ok, Sem.run_pure]
    rw [hfill _ (by simp)]
    simp only [newRow, newObj, Sem.run_bind, Sem.run, Result.andThen_ok, Sem.run_pure]
  rw [Sem.run_bind, hrun]
  exact ⟨_, ⟨_, rfl, rfl⟩, hw.new us e⟩
end
end Go.WG

set_option linter.unusedVariables false
set_option linter.unusedSimpArgs false
namespace Go.WG
open Go
/-- out of 'H' there is something of which 'p', and 'H'' holds -/
def Ex {α : Type} (H : List Asr) (p : α → Prop) (H' : α → List Asr) : Prop := ∀ w, Holds w H → ∃ x, p x ∧ Holds w (H' x)
section
variable {α β : Type} {P : Program} {n : Nat} {fr : Frm} {H G : List Asr} {o : Oper} {K : Act → World → Prop} {ops : Array Oper} {Q : Exit → Act → World → Prop} {M : List Nat} {sp : List Nat} {pre : List Pre}
theorem To.ex {p : α → Prop} {H' : α → List Asr} (h : Ex H p H') (k : ∀ x, p x → To n K fr (H' x)) : To n K fr H := by
  intro a w ha hw
  obtain ⟨x, hp, hw'⟩ := h w hw
  exact k x hp a w ha hw'
theorem Dr.exi {p : α → Prop} {H' : α → List Asr} (h : Ex H p H') (k : ∀ x, p x → Dr P n ops Q M sp pre fr (H' x)) : Dr P n ops Q M sp pre fr H :=
  .ex (α := { x // p x }) (fun x => H' x.1) (fun w hw => let ⟨x, hp, hw'⟩ := h w hw; ⟨⟨x, hp⟩, hw'⟩) fun x => k x.1 x.2
theorem Dr.imp {H' : List Asr} (h : Imp H H') (k : Dr P n ops Q M sp pre fr H') : Dr P n ops Q M sp pre fr H := .ex (α := Unit) (fun _ => H') (fun w hw => ⟨(), h w hw⟩) fun _ => k
theorem Dr.sel {H' : List Asr} (p : Sel H H') (h : Dr P n ops Q M sp pre fr H') : Dr P n ops Q M sp pre fr H := Dr.imp p.imp h
theorem Dr.pull {A : Asr} {H' : List Asr} (p : Pull A H H') (h : Dr P n ops Q M sp pre fr (A :: H')) : Dr P n ops Q M sp pre fr H := Dr.imp p.imp h
theorem To.bool (t : Bool) (ht : t = true → To n K fr H) (hf : t = false → To n K fr H) : To n K fr H := by
  cases t with
  | true => exact ht rfl
  | false => exact hf rfl
theorem Dr.app0 {F : List Asr} (h : Dr P n ops Q M sp pre fr F) : Dr P n ops Q M sp pre fr ([] ++ F) := h
theorem Dr.app1 {c0 : Asr} {F : List Asr} (h : Dr P n ops Q M sp pre fr (c0 :: F)) : Dr P n ops Q M sp pre fr ([c0] ++ F) := h
theorem Dr.app2 {c0 c1 : Asr} {F : List Asr} (h : Dr P n ops Q M sp pre fr (c0 :: c1 :: F)) : Dr P n ops Q M sp pre fr ([c0, c1] ++ F) := h
theorem Dr.app3 {c0 c1 c2 : Asr} {F : List Asr} (h : Dr P n ops Q M sp pre fr (c0 :: c1 :: c2 :: F)) : Dr P n ops Q M sp pre fr ([c0, c1, c2] ++ F) := h
theorem Dr.app4 {c0 c1 c2 c3 : Asr} {F : List Asr} (h : Dr P n ops Q M sp pre fr (c0 :: c1 :: c2 :: c3 :: F)) : Dr P n ops Q M sp pre fr ([c0, c1, c2, c3] ++ F) := h

theorem Sat.add {w : World} {I : Fp} {H : List Asr} {O : Fp} : ∀ {L : List Asr}, Sat w I L (fun _ _ => False) → Sat w I H O → Sat w I (L ++ H) O
  | [], _, h => h
  | B :: L, hs, h => by
    obtain ⟨P1, P2, g1, g2, g12, hB, hL⟩ := hs
    exact ⟨P1, O, fun _ _ x => (g1 _ _ x).elim, fun _ _ x => x, fun _ _ x => (g1 _ _ x).elim, hB, Sat.add (Sat.mono (fun _ _ x => x) hL g2 (Keeps.refl _ _)) h⟩

/-- how a kind's cells are laid open -/
def Opens (k : Kd α) (x : α) (cells : β → List Value) (L : β → List Asr) : Prop := ∀ w I cs, k.rep w I cs x → ∃ y, cs = cells y ∧ Sat w I (L y) (fun _ _ => False)

/-- an element, laid open -/
theorem Ex.elem {k : Kd α} {a : Option Addr} {c i sz : Nat} {xs : List α} {x : α} {cells : β → List Value} {L : β → List Asr} (ho : Opens k x cells L) (hp : Pull (imm k a c xs) H G) (hx : xs[i]? = some x) (hs : k.sz = sz) :
    Ex H (fun q : Nat × Nat × β => a = some ⟨q.1, q.2.1, none⟩) (fun q => L q.2.2 ++ (ro q.1 (q.2.1 + i * sz) (cells q.2.2) :: H)) := by
  subst hs
  intro w hw
  obtain ⟨⟨b, r, cs⟩, e, hw'⟩ := open_imm hp hx w hw
  obtain ⟨I, O, hI, hO, hd, O1, O2, h1, h2, h12, hA, hH⟩ := hw'
  obtain ⟨y, rfl, hy⟩ := ho w I cs hA
  exact ⟨(b, r, y), e, I, O, hI, hO, hd, Sat.add hy (Sat.mono (fun _ _ x => x) hH h2 (Keeps.refl _ _))⟩

theorem op_int {k : IntKind} {x : Int} : Opens (kInt k) x (fun _ : Unit => [.int k x]) (fun _ => []) := fun _ _ _ h => ⟨(), h, trivial⟩
theorem op_bool {x : Bool} : Opens kBool x (fun _ : Unit => [.bool x]) (fun _ => []) := fun _ _ _ h => ⟨(), h, trivial⟩
theorem op_str {x : Str} : Opens kStr x (fun _ : Unit => [.string (S x)]) (fun _ => []) := fun _ _ _ h => ⟨(), h, trivial⟩
theorem mk_int {k : IntKind} {x : Int} : Imp H (rp (kInt k) [.int k x] x :: H) := Imp.of_sat fun w I O h => ⟨fun _ _ => False, O, fun _ _ x => x.elim, fun _ _ x => x, fun _ _ x => x.elim, rfl, h⟩
theorem mk_bool {x : Bool} : Imp H (rp kBool [.bool x] x :: H) := Imp.of_sat fun w I O h => ⟨fun _ _ => False, O, fun _ _ x => x.elim, fun _ _ x => x, fun _ _ x => x.elim, rfl, h⟩
theorem mk_str {x : Str} : Imp H (rp kStr [.string (S x)] x :: H) := Imp.of_sat fun w I O h => ⟨fun _ _ => False, O, fun _ _ x => x.elim, fun _ _ x => x, fun _ _ x => x.elim, rfl, h⟩

/-- a slice as an element -/
def kSl (k : Kd α) : Kd (List α) where
  sz := 1
  rep w I cs xs := ∃ a c, cs = [.slice a xs.length c] ∧ ImmAt k w I a c xs
  len h := by obtain ⟨a, c, rfl, _⟩ := h; rfl
  ones h := by obtain ⟨a, c, rfl, _⟩ := h; rfl
  mono h hI hk := by obtain ⟨a, c, e, h⟩ := h; exact ⟨a, c, e, h.mono hI hk⟩
theorem op_sl {k : Kd α} {xs : List α} : Opens (kSl k) xs (fun q : Option Addr × Nat => [.slice q.1 xs.length q.2]) (fun q => [imm k q.1 q.2 xs]) := by
  rintro w I cs ⟨a, c, rfl, h⟩
  exact ⟨(a, c), rfl, fun _ _ => False, fun _ _ => False, fun _ _ x => x, fun _ _ x => x, fun _ _ x => x.elim, h, trivial⟩
theorem mk_sl {k : Kd α} {a : Option Addr} {c : Nat} {xs : List α} : Imp (imm k a c xs :: H) (rp (kSl k) [.slice a xs.length c] xs :: H) := Imp.of_sat fun w I O h => by
  obtain ⟨O1, O2, h1, h2, h12, hA, hH⟩ := h
  exact ⟨O1, O2, h1, h2, h12, ⟨a, c, rfl, hA⟩, hH⟩

/-- a part of a slice -/
def lslice (xs : List α) (lo hi : Int) : Option (List α) := if 0 ≤ lo ∧ lo ≤ hi ∧ hi ≤ xs.length then some ((xs.take hi.toNat).drop lo.toNat) else none
theorem lsliceE {xs : List α} {lo hi : Int} {z : List α} (h : lslice xs lo hi = some z) : (0 ≤ lo ∧ lo ≤ hi ∧ hi ≤ xs.length) ∧ z = (xs.take hi.toNat).drop lo.toNat ∧ z.length = hi.toNat - lo.toNat := by
  unfold lslice at h
  split at h
  · rename_i hc
    cases h
    refine ⟨hc, rfl, ?_⟩
    simp only [List.length_drop, List.length_take]; omega
  · cases h

def sliceA (a : Option Addr) (cap l sz : Nat) : Option Addr := if cap = l then a else a.map (·.add (l * sz))

theorem Ex.cut {k : Kd α} {a : Option Addr} {c sz : Nat} {xs z : List α} {lo hi : Int} (hp : Pull (imm k a c xs) H G) (hz : lslice xs lo hi = some z) (hs : k.sz = sz) :
    Ex H (fun a' => a' = sliceA a c lo.toNat sz) (fun a' => imm k a' (c - lo.toNat) z :: H) := by
  subst hs
  intro w hw
  obtain ⟨hc, rfl, hl⟩ := lsliceE hz
  obtain ⟨I, O, hI, hO, hd, hs⟩ := hw
  obtain ⟨O1, O2, h1, h2, h12, hA, hH⟩ := hp.sat w I O hs
  refine ⟨_, rfl, I, O, hI, hO, hd, fun _ _ => False, O, fun _ _ x => x.elim, fun _ _ x => x, fun _ _ x => x.elim, ?_, hs⟩
  refine ⟨by have := hA.1; omega, fun i hi' => ?_⟩
  have hlt : lo.toNat + i < xs.length := by omega
  obtain ⟨b, r, cs, ha, hr, hj⟩ := hA.2 (lo.toNat + i) hlt
  have hne : ¬ c = lo.toNat := by have := hA.1; omega
  refine ⟨b, r + lo.toNat * k.sz, cs, by rw [sliceA, if_neg hne, ha]; simp [Addr.add_lit], ?_, fun j hj' => ?_⟩
  · rw [List.getElem_drop, List.getElem_take]; exact hr
  · have := hj j hj'
    rw [Nat.add_mul] at this
    rwa [show r + lo.toNat * k.sz + i * k.sz + j = r + (lo.toNat * k.sz + i * k.sz) + j by omega]

/-- the bounds of a cut: where they are given, they are these -/
def bnd (fr : Frm) (x : Option Operand) (d v : Int) : Prop := match x with
  | none => v = d
  | some x => ∃ k, ev fr x = some (.int k v)

theorem bound_run {v : Int} {y : Nat} {code : BoundsCode} {k : IntKind} (h : 0 ≤ v ∧ v ≤ y) (w : World) : (Instr.sliceBound (.int k v) y code).run P w = .ok v.toNat w := by
  unfold Instr.sliceBound
  simp only [asIntOf, Sem.run_bind, Sem.run_pure, Result.andThen_ok, h, and_self, if_true]

theorem pe_cut {t e : TypeId} {x : Operand} {lo' hi' : Option Operand} {lo hi : Int} {agg : Bool} {sz : Nat} {a a' : Option Addr} {l c : Nat} {z : List α} (hop : o.op = .slice t x lo' hi' none) (hx : ev fr x = some (.slice a l c))
    (hlo : bnd fr lo' 0 lo) (hhi : bnd fr hi' l hi) (hu : P.underlying t = some (.slice e)) (ht : Ty P e agg sz) (hb : 0 ≤ lo ∧ lo ≤ hi ∧ hi ≤ l) (hlc : l ≤ c) (hz : z.length = hi.toNat - lo.toNat) (ha : a' = sliceA a c lo.toNat sz) :
    PureEval P o n fr H (.slice a' z.length (c - lo.toNat)) := by
  intro act w hk hw
  subst ha
  have key : (Instr.sliceBounds true l c (lo'.map act.eval) (hi'.map act.eval) none).run P w = .ok (lo.toNat, hi.toNat, c) w := by
    unfold Instr.sliceBounds
    cases hi' with
    | none =>
      simp only [bnd] at hhi; subst hhi
      cases lo' with
      | none => simp only [bnd] at hlo; subst hlo; simp
      | some y =>
        obtain ⟨k, hy⟩ := hlo
        simp only [Option.map_some, Option.map_none, hk.eval hy, Sem.run_bind, Sem.run_pure, Result.andThen_ok, Option.isSome_none, Bool.false_eq_true, if_false]
        rw [bound_run ⟨by omega, by omega⟩]; simp
    | some x =>
      obtain ⟨k, hx'⟩ := hhi
      have hb1 := fun w => bound_run (P := P) (k := k) (v := hi) (y := c) (code := .sliceAcap) ⟨by omega, by omega⟩ w
      cases lo' with
      | none =>
        simp only [bnd] at hlo; subst hlo
        simp only [Option.map_some, Option.map_none, hk.eval hx', Sem.run_bind, Sem.run_pure, Result.andThen_ok, Option.isSome_none, if_true, hb1]
        simp
      | some y =>
        obtain ⟨k', hy⟩ := hlo
        simp only [Option.map_some, Option.map_none, hk.eval hx', hk.eval hy, Sem.run_bind, Sem.run_pure, Result.andThen_ok, Option.isSome_none, Bool.false_eq_true, if_true, if_false, hb1]
        rw [bound_run ⟨by omega, by omega⟩]; simp
  simp only [execOp, hop, hk.eval hx, Instr.sliceAt, Sem.run_bind, run_underlying hu, Result.andThen_ok, Instr.slice, Option.map_none, key, ht.sizeOf, Sem.run_pure, sliceA, hz]

/-- a part of a text -/
theorem pe_scut {t : TypeId} {x : Operand} {lo' hi' : Option Operand} {lo hi : Int} {s z : Str} (hop : o.op = .slice t x lo' hi' none) (hx : ev fr x = some (.string (S s)))
    (hlo : bnd fr lo' 0 lo) (hhi : bnd fr hi' s.length hi) (hu : P.underlying t = some .string) (hz : lslice s lo hi = some z) :
    PureEval P o n fr H (.string (S z)) := by
  intro act w hk hw
  obtain ⟨hb, rfl, _⟩ := lsliceE hz
  have hsz : (S s).size = s.length := rfl
  have key : (Instr.sliceBounds false s.length s.length (lo'.map act.eval) (hi'.map act.eval) none).run P w = .ok (lo.toNat, hi.toNat, s.length) w := by
    unfold Instr.sliceBounds
    cases hi' with
    | none =>
      simp only [bnd] at hhi; subst hhi
      cases lo' with
      | none => simp only [bnd] at hlo; subst hlo; simp
      | some y =>
        obtain ⟨k, hy⟩ := hlo
        simp only [Option.map_some, Option.map_none, hk.eval hy, Sem.run_bind, Sem.run_pure, Result.andThen_ok, Option.isSome_none, Bool.false_eq_true, if_false]
        rw [bound_run ⟨by omega, by omega⟩]; simp
    | some x =>
      obtain ⟨k, hx'⟩ := hhi
      have hb1 := fun w => bound_run (P := P) (k := k) (v := hi) (y := s.length) (code := .sliceAlen) ⟨by omega, by omega⟩ w
      cases lo' with
      | none =>
        simp only [bnd] at hlo; subst hlo
        simp only [Option.map_some, Option.map_none, hk.eval hx', Sem.run_bind, Sem.run_pure, Result.andThen_ok, Option.isSome_none, Bool.false_eq_true, if_false, hb1]
        simp
      | some y =>
        obtain ⟨k', hy⟩ := hlo
        simp only [Option.map_some, Option.map_none, hk.eval hx', hk.eval hy, Sem.run_bind, Sem.run_pure, Result.andThen_ok, Option.isSome_none, Bool.false_eq_true, if_false, hb1]
        rw [bound_run ⟨by omega, by omega⟩]; simp
  have hex : (S s).extract lo.toNat hi.toNat = S ((s.take hi.toNat).drop lo.toNat) := by
    apply ByteArray.ext
    rw [ByteArray.data_extract]
    apply Array.ext'
    show ((s.toArray).extract lo.toNat hi.toNat).toList = _
    simp [List.extract_eq_take_drop, List.drop_take]
  simp only [execOp, hop, hk.eval hx, Instr.sliceAt, Sem.run_bind, run_underlying hu, Result.andThen_ok, Instr.slice, Option.map_none, Option.isSome_none, Bool.false_eq_true, if_false, hsz, key, Sem.run_pure, hex]
theorem To.el_int {a : Option Addr} {c i : Nat} {ik : IntKind} {x : Int} {xs : List Int} (hp : Pull (imm (kInt ik) a c xs) H G) (hx : xs[i]? = some x) (k : ∀ b r, a = some ⟨b, r, none⟩ → To n K fr (ro b (r + i * 1) [.int ik x] :: H)) : To n K fr H :=
  To.ex (Ex.elem op_int hp hx rfl) fun q e => k q.1 q.2.1 e
theorem Dr.el_int {a : Option Addr} {c i : Nat} {ik : IntKind} {x : Int} {xs : List Int} (hp : Pull (imm (kInt ik) a c xs) H G) (hx : xs[i]? = some x) (k : ∀ b r, a = some ⟨b, r, none⟩ → Dr P n ops Q M sp pre fr (ro b (r + i * 1) [.int ik x] :: H)) : Dr P n ops Q M sp pre fr H :=
  Dr.exi (Ex.elem op_int hp hx rfl) fun q e => k q.1 q.2.1 e
theorem To.el_bool {a : Option Addr} {c i : Nat} {x : Bool} {xs : List Bool} (hp : Pull (imm kBool a c xs) H G) (hx : xs[i]? = some x) (k : ∀ b r, a = some ⟨b, r, none⟩ → To n K fr (ro b (r + i * 1) [.bool x] :: H)) : To n K fr H :=
  To.ex (Ex.elem op_bool hp hx rfl) fun q e => k q.1 q.2.1 e
theorem Dr.el_bool {a : Option Addr} {c i : Nat} {x : Bool} {xs : List Bool} (hp : Pull (imm kBool a c xs) H G) (hx : xs[i]? = some x) (k : ∀ b r, a = some ⟨b, r, none⟩ → Dr P n ops Q M sp pre fr (ro b (r + i * 1) [.bool x] :: H)) : Dr P n ops Q M sp pre fr H :=
  Dr.exi (Ex.elem op_bool hp hx rfl) fun q e => k q.1 q.2.1 e
theorem To.el_str {a : Option Addr} {c i : Nat} {x : Str} {xs : List Str} (hp : Pull (imm kStr a c xs) H G) (hx : xs[i]? = some x) (k : ∀ b r, a = some ⟨b, r, none⟩ → To n K fr (ro b (r + i * 1) [.string (S x)] :: H)) : To n K fr H :=
  To.ex (Ex.elem op_str hp hx rfl) fun q e => k q.1 q.2.1 e
theorem Dr.el_str {a : Option Addr} {c i : Nat} {x : Str} {xs : List Str} (hp : Pull (imm kStr a c xs) H G) (hx : xs[i]? = some x) (k : ∀ b r, a = some ⟨b, r, none⟩ → Dr P n ops Q M sp pre fr (ro b (r + i * 1) [.string (S x)] :: H)) : Dr P n ops Q M sp pre fr H :=
  Dr.exi (Ex.elem op_str hp hx rfl) fun q e => k q.1 q.2.1 e
theorem To.el_sl {kd : Kd α} {a : Option Addr} {c i : Nat} {x : List α} {xs : List (List α)} (hp : Pull (imm (kSl kd) a c xs) H G) (hx : xs[i]? = some x) (k : ∀ b r a1 c1, a = some ⟨b, r, none⟩ → To n K fr (imm kd a1 c1 x :: ro b (r + i * 1) [.slice a1 x.length c1] :: H)) : To n K fr H :=
  To.ex (Ex.elem op_sl hp hx rfl) fun q e => k q.1 q.2.1 q.2.2.1 q.2.2.2 e
theorem To.cutSl {kd : Kd α} {a : Option Addr} {c sz : Nat} {xs z : List α} {lo hi : Int} (hp : Pull (imm kd a c xs) H G) (hz : lslice xs lo hi = some z) (hs : kd.sz = sz)
    (k : ∀ a', a' = sliceA a c lo.toNat sz ∧ xs.length ≤ c → To n K fr (imm kd a' (c - lo.toNat) z :: H)) : To n K fr H :=
  To.ex (p := fun a' => a' = sliceA a c lo.toNat sz ∧ xs.length ≤ c) (fun w hw => by
    obtain ⟨a', e, h⟩ := Ex.cut hp hz hs w hw
    obtain ⟨I, O1, O2, _, _, _, _, _, _, hA, _⟩ := (hp.imp w hw).upd
    exact ⟨a', ⟨e, hA.1⟩, h⟩) k
theorem Dr.el_sl {kd : Kd α} {a : Option Addr} {c i : Nat} {x : List α} {xs : List (List α)} (hp : Pull (imm (kSl kd) a c xs) H G) (hx : xs[i]? = some x) (k : ∀ b r a1 c1, a = some ⟨b, r, none⟩ → Dr P n ops Q M sp pre fr (imm kd a1 c1 x :: ro b (r + i * 1) [.slice a1 x.length c1] :: H)) : Dr P n ops Q M sp pre fr H :=
  Dr.exi (Ex.elem op_sl hp hx rfl) fun q e => k q.1 q.2.1 q.2.2.1 q.2.2.2 e
theorem Dr.cutSl {kd : Kd α} {a : Option Addr} {c sz : Nat} {xs z : List α} {lo hi : Int} (hp : Pull (imm kd a c xs) H G) (hz : lslice xs lo hi = some z) (hs : kd.sz = sz)
    (k : ∀ a', a' = sliceA a c lo.toNat sz ∧ xs.length ≤ c → Dr P n ops Q M sp pre fr (imm kd a' (c - lo.toNat) z :: H)) : Dr P n ops Q M sp pre fr H :=
  Dr.exi (p := fun a' => a' = sliceA a c lo.toNat sz ∧ xs.length ≤ c) (fun w hw => by
    obtain ⟨a', e, h⟩ := Ex.cut hp hz hs w hw
    obtain ⟨I, O1, O2, _, _, _, _, _, _, hA, _⟩ := (hp.imp w hw).upd
    exact ⟨a', ⟨e, hA.1⟩, h⟩) k
end
end Go.WG

set_option linter.unusedVariables false
set_option linter.unusedSimpArgs false
namespace Go.WG
open Go
section
variable {α : Type} {P : Program} {n : Nat} {fr : Frm} {H G : List Asr} {o : Oper}

theorem fill_rows {sz : Nat} : ∀ (vs : List Value) (i : Nat) (pre cells : List Value), pre.length = i * sz → cells.length = vs.length * sz → (∀ v ∈ vs, v.cells.size = sz) →
    Instr.fill (fun i => some (i * sz, sz)) ⟨pre ++ cells⟩ ((vs.zipIdx i).map fun (v, j) => (j, v)) = some ⟨pre ++ (vs.map fun v => v.cells.toList).flatten⟩
  | [], i, pre, cells, _, hc, _ => by
    have : cells = [] := List.eq_nil_of_length_eq_zero (by simpa using hc)
    subst this
    rfl
  | v :: vs, i, pre, cells, hp, hc, hv => by
    have h1 := hv v (.head _)
    simp only [List.zipIdx_cons, List.map_cons]
    unfold Instr.fill
    simp only
    have hlen : (Array.mk (pre ++ cells)).size = i * sz + (vs.length + 1) * sz := by show (pre ++ cells).length = _; rw [List.length_append, hp, hc]; rfl
    rw [if_neg (by rw [h1, hlen, Nat.add_mul]; simp)]
    have hsplit : ∃ c1 c2, cells = c1 ++ c2 ∧ c1.length = sz := ⟨cells.take sz, cells.drop sz, by simp, by rw [List.length_take, hc, List.length_cons, Nat.add_mul]; omega⟩
    obtain ⟨c1, c2, rfl, hc1⟩ := hsplit
    have hput : ∀ (pre c1 us c2 : List Value), us.length = c1.length → Put (pre ++ (c1 ++ c2)) pre.length us (pre ++ (us ++ c2)) := by
      intro pre
      induction pre with
      | nil =>
        intro c1 us
        induction us generalizing c1 with
        | nil => intro c2 h; cases c1 with
          | nil => exact .z
          | cons => simp at h
        | cons u us ih => intro c2 h; cases c1 with
          | nil => simp at h
          | cons c c1 => exact .t (ih c1 c2 (by simpa using h))
      | cons p pre ih => intro c1 us c2 h; exact .d (ih c1 us c2 h)
    have hus : v.cells.toList.length = c1.length := by rw [hc1]; exact h1
    have hf := put_fold (hput pre c1 v.cells.toList c2 hus) (by simp; omega)
    rw [hp] at hf
    have hvc : (Array.mk v.cells.toList) = v.cells := rfl
    rw [hvc] at hf
    rw [hf]
    have := fill_rows (sz := sz) vs (i + 1) (pre ++ v.cells.toList) c2 (by rw [List.length_append, hp, hus, hc1, Nat.add_mul]; omega) (by rw [List.length_append, hc1, List.length_cons, Nat.add_mul] at hc; omega) (fun u hu => hv u (.tail _ hu))
    rw [List.append_assoc] at this
    rw [this]
    simp

def vcells (vs : List Value) : List Value := (vs.map fun v => v.cells.toList).flatten

theorem st_row {t e : TypeId} {m : Nat} {xs : List (Nat × Operand)} {vs us : List Value} {agg : Bool} {size : Nat} (hop : o.op = .buildSlice t m ⟨xs⟩) (hx : xs.map (fun p => (ev fr p.2).map fun v => (p.1, v)) = (vs.zipIdx.map fun (v, j) => (j, v)).map some)
    (hm : Nat.beq vs.length m = true) (hus : vcells vs = us) (hu : P.underlying t = some (.slice e)) (ht : Ty P e agg size) (hz : (((P.info? e).bind (·.zero)).map (·.cells.size)) = some size) (hl : vs.all (fun v => Nat.beq v.cells.size size) = true) (hs : Nat.ble (m * size) 100000 = true) :
    Step P o n fr H (fun u H' => ∃ b, u = .slice (some ⟨b, 0, none⟩) m m ∧ H' = pt b 0 us :: H) := by
  intro a w hk hw
  have hm := Nat.eq_of_beq_eq_true hm
  subst hm; subst hus
  have hp : ((Array.mk xs).map fun (i, x) => (i, a.eval x)) = Array.mk (vs.zipIdx.map fun (v, j) => (j, v)) := by
    rw [show Array.mk xs = xs.toArray from rfl, List.map_toArray]
    exact congrArg List.toArray (parts_eval hk xs _ hx)
  have hsz := Nat.le_of_ble_eq_true hs
  have hall : ∀ v ∈ vs, v.cells.size = size := fun v hv => Nat.eq_of_beq_eq_true (List.all_eq_true.1 hl v hv)
  obtain ⟨z, hzr, hzl⟩ : ∃ z, (∀ w, (zeroValue e).run P w = .ok z w) ∧ z.cells.size = size := by
    cases hi : P.info? e with
    | none => rw [hi] at hz; cases hz
    | some i =>
      rw [hi] at hz
      simp only [Option.bind_some] at hz
      cases hzz : i.zero with
      | none => rw [hzz] at hz; cases hz
      | some z =>
        rw [hzz] at hz
        exact ⟨z, fun w => by simp [zeroValue, typeInfo, program, hi, Sem.run_bind, Sem.run, hzz], by simpa using hz⟩
  have hfill : ∀ cs : Array Value, cs.size = vs.length * size → Instr.fill (fun i => some (i * size, size)) cs (vs.zipIdx.map fun (v, j) => (j, v)) = some ⟨vcells vs⟩ := by
    intro cs hcs
    obtain ⟨cs⟩ := cs
    exact fill_rows (sz := size) vs 0 [] cs (by simp) hcs hall
  have hrun : (Instr.buildSlice t vs.length ⟨vs.zipIdx.map fun (v, j) => (j, v)⟩).run P w = .ok (.slice (some ⟨w.heap.size, 0, none⟩) vs.length vs.length) { w with heap := w.heap.push (.cells ⟨vcells vs⟩ e) } := by
    unfold Instr.buildSlice
    rw [Sem.run_bind, run_underlying hu, Result.andThen_ok]
    simp only
    rw [Sem.run_bind, ht.sizeOf, Result.andThen_ok]
    rw [if_neg (by omega)]
    by_cases h0 : vs.length * size = 0
    · rw [if_pos h0]
      simp only [Sem.run_bind, Sem.run_pure, Result.andThen_ok]
      rw [hfill _ (by simp)]
      simp only [newRow, newObj, Sem.run_bind, Sem.run, Result.andThen_ok, Sem.run_pure]
    · rw [if_neg h0]
      simp only [Sem.run_bind, hzr, Result.andThen_ok, Sem.run_pure]
      rw [hfill _ (by simp)]
      simp only [newRow, newObj, Sem.run_bind, Sem.run, Result.andThen_ok, Sem.run_pure]
  simp only [execOp, hop, hp]
  rw [Sem.run_bind, hrun]
  exact ⟨_, ⟨_, rfl, rfl⟩, hw.new _ e⟩

/-- the things that a row's cells tell of -/
def RowsH (k : Kd α) (H : List Asr) (cs : List Value) (xs : List α) : Prop := ∀ w I O, Sat w I H O → Reps k w I cs xs
theorem RowsH.nil {k : Kd α} : RowsH k H [] [] := fun _ _ _ _ => rfl
theorem RowsH.cons {k : Kd α} {c c2 cs : List Value} {x : α} {xs : List α} (hp : Pull (rp k c x) H G) (h : RowsH k H c2 xs) (e : c ++ c2 = cs) : RowsH k H cs (x :: xs) := by
  intro w I O hs
  obtain ⟨O1, O2, _, _, _, hA, _⟩ := hp.sat w I O hs
  exact ⟨c, c2, e.symm, hA, h w I O hs⟩
theorem Imp.row {k : Kd α} {b m : Nat} {cs : List Value} {xs : List α} (h : RowsH k H cs xs) (hm : xs.length = m) : Imp (pt b 0 cs :: H) (own k (some ⟨b, 0, none⟩) m xs :: H) := by
  subst hm
  refine Imp.of_sat fun w I O hs => ?_
  obtain ⟨O1, O2, h1, h2, h12, hA, hH⟩ := hs
  have hR := h w I O2 hH
  have hl := hR.len
  refine ⟨O1, O2, h1, h2, h12, .inr ⟨b, 0, rfl, Nat.le_refl _, fun t ht => ?_, fun i hi => ?_⟩, hH⟩
  · have := hA t (by omega)
    exact ⟨this.1, _, this.2⟩
  · obtain ⟨c, hr, hj⟩ := hR.get i hi
    refine ⟨c, hr, fun j hjl => ?_⟩
    have hg := hj j hjl
    have hlt : i * k.sz + j < cs.length := by
      rcases Nat.lt_or_ge (i * k.sz + j) cs.length with h | h
      · exact h
      · rw [List.getElem?_eq_none h] at hg; cases hg
    rw [List.getElem?_eq_getElem hlt] at hg
    have := (hA _ hlt).2
    rw [← Nat.add_assoc] at this
    rw [this]
    exact congrArg (Seen.cell · false) (Option.some.inj hg)
end
end Go.WG

set_option linter.unusedVariables false
set_option linter.unusedSimpArgs false
namespace Go.WG
open Go
section
variable {α β : Type} {P : Program} {n : Nat} {fr : Frm} {H G : List Asr} {o : Oper} {K : Act → World → Prop} {ops : Array Oper} {Q : Exit → Act → World → Prop} {M : List Nat} {sp : List Nat} {pre : List Pre}

def IpAt (k : Kd α) (w : World) (I : Fp) (p : Option Addr) (x : Option α) : Prop :=
  (p = none ∧ x = none) ∨ ∃ b r y cs, p = some ⟨b, r, none⟩ ∧ x = some y ∧ k.rep w I cs y ∧ ∀ j (hj : j < cs.length), I b (r + j) ∧ ∃ fl, at_ w b (r + j) = .cell cs[j] fl
theorem IpAt.mono {k : Kd α} {w w' : World} {I I' : Fp} {p : Option Addr} {x : Option α} (h : IpAt k w I p x) (hI : ∀ b o, I b o → I' b o) (hk : Keeps w w' I) : IpAt k w' I' p x := by
  rcases h with h | ⟨b, r, y, cs, hp, hx, hr, hc⟩
  · exact .inl h
  · exact .inr ⟨b, r, y, cs, hp, hx, k.mono hr hI hk, fun j hj => ⟨hI _ _ (hc j hj).1, (hc j hj).2.imp fun _ hf => (hk.same _ _ (hc j hj).1).trans hf⟩⟩
/-- a pointer to what never changes, or nil -/
def ip (k : Kd α) (p : Option Addr) (x : Option α) : Asr where
  holds w I _ := IpAt k w I p x
  mono h hI _ hk := h.mono hI (hk.sub fun _ _ x => .inl x)
instance {k : Kd α} {p : Option Addr} {x : Option α} : Pers (ip k p x) := ⟨fun _ _ _ h => h⟩
theorem ip_nil {k : Kd α} {H : List Asr} : Imp H (ip k none none :: H) := Imp.of_sat fun w I O h => ⟨fun _ _ => False, O, fun _ _ x => x.elim, fun _ _ x => x, fun _ _ x => x.elim, .inl ⟨rfl, rfl⟩, h⟩
theorem ip_some {k : Kd α} {b r : Nat} {cs : List Value} {x : α} {H : List Asr} : Imp (pt b r cs :: rp k cs x :: H) (ip k (some ⟨b, r, none⟩) (some x) :: H) := by
  intro w hw
  obtain ⟨I, O1, O2, hI, hO1, hO2, hd1, hd2, hd12, hA, hS⟩ := hw.upd
  obtain ⟨P1, P2, g1, g2, g12, hB, hS'⟩ := hS
  refine Holds.mk hI (fun b o x => hO2 b o (g2 b o x)) (fun b o x y => hd2 b o x (g2 b o y)) hS' hO1 hd1 (fun b o x y => hd12 b o x (g2 b o y)) (I' := fun b o => I b o ∨ O1 b o) (O1' := fun _ _ => False) (Keeps.refl _ _) (fun b o x => x.imp id .inl) (fun _ _ x => .inl x) (fun _ _ x => x.elim) (fun _ _ _ x => x) ?_
  exact .inr ⟨b, r, x, cs, rfl, rfl, k.mono hB (fun _ _ x => .inl x) (Keeps.refl _ _), fun j hj => ⟨.inr (hA j hj).1, false, (hA j hj).2⟩⟩
theorem Ex.ip_null {k : Kd α} {p : Option Addr} {x : Option α} (hp : Pull (ip k p x) H G) : Ex H (fun _ : Unit => p.isNone = x.isNone) (fun _ => H) := by
  intro w hw
  refine ⟨(), ?_, hw⟩
  obtain ⟨I, O, hI, hO, hd, hs⟩ := hw
  obtain ⟨O1, O2, h1, h2, h12, hA, hH⟩ := hp.sat w I O hs
  rcases hA with ⟨rfl, rfl⟩ | ⟨b, r, y, cs, rfl, rfl, _, _⟩ <;> rfl
theorem Ex.ip_open {k : Kd α} {p : Option Addr} {x : Option α} {y : α} {cells : β → List Value} {L : β → List Asr} (ho : Opens k y cells L) (hp : Pull (ip k p x) H G) (hx : x = some y) :
    Ex H (fun q : Nat × Nat × β => p = some ⟨q.1, q.2.1, none⟩) (fun q => L q.2.2 ++ (ro q.1 q.2.1 (cells q.2.2) :: H)) := by
  subst hx
  intro w hw
  obtain ⟨I, O, hI, hO, hd, hs⟩ := hw
  obtain ⟨O1, O2, h1, h2, h12, hA, hH⟩ := hp.sat w I O hs
  rcases hA with ⟨_, hx⟩ | ⟨b, r, y', cs, e, hx, hr, hc⟩
  · cases hx
  · cases hx
    obtain ⟨z, rfl, hz⟩ := ho w I cs hr
    exact ⟨(b, r, z), e, I, O, hI, hO, hd, Sat.add hz ⟨fun _ _ => False, O, fun _ _ x => x.elim, fun _ _ x => x, fun _ _ x => x.elim, hc, hs⟩⟩
theorem pe_ipeql {t ty e : TypeId} {x y : Operand} {p : Option Addr} {b : Bool} (hn : p.isNone = b) (hop : o.op = .binOp .eql t x y ty) (hx : ev fr x = some (.pointer p)) (hy : ev fr y = some (.pointer none)) (hu : P.underlying t = some (.pointer e)) :
    PureEval P o n fr H (.bool b) := by rw [← hn]; exact pe_peql hop hx hy hu
theorem pe_ipneq {t ty e : TypeId} {x y : Operand} {p : Option Addr} {b : Bool} (hn : p.isNone = b) (hop : o.op = .binOp .neq t x y ty) (hx : ev fr x = some (.pointer p)) (hy : ev fr y = some (.pointer none)) (hu : P.underlying t = some (.pointer e)) :
    PureEval P o n fr H (.bool (!b)) := by rw [← hn]; exact pe_pneq hop hx hy hu

/-! an object in parts -/
theorem pt_split2 {b r : Nat} {cs vs us : List Value} (h : cs = vs ++ us) : Imp (pt b r cs :: H) (pt b r vs :: pt b (r + vs.length) us :: H) := by
  subst h
  refine Imp.of_sat fun w I O h => ?_
  obtain ⟨O1, O2, h1, h2, h12, hA, hH⟩ := h
  refine ⟨fun b' o' => O1 b' o' ∧ ¬ (b' = b ∧ r + vs.length ≤ o'), fun b' o' => (O1 b' o' ∧ b' = b ∧ r + vs.length ≤ o') ∨ O2 b' o', fun _ _ x => h1 _ _ x.1, fun _ _ x => x.elim (fun x => h1 _ _ x.1) (h2 _ _), fun b' o' x y => y.elim (fun y => x.2 y.2) (h12 _ _ x.1), ?_,
    fun b' o' => O1 b' o' ∧ b' = b ∧ r + vs.length ≤ o', O2, fun _ _ x => .inl x, fun _ _ x => .inr x, fun _ _ x y => h12 _ _ x.1 y, ?_, hH⟩
  · intro j hj
    have := hA j (by rw [List.length_append]; omega)
    rw [List.getElem_append_left hj] at this
    exact ⟨⟨this.1, fun h => by omega⟩, this.2⟩
  · intro j hj
    have := hA (vs.length + j) (by rw [List.length_append]; omega)
    rw [List.getElem_append_right (by omega)] at this
    simp only [Nat.add_sub_cancel_left] at this
    rw [Nat.add_assoc]
    exact ⟨⟨this.1, rfl, by omega⟩, this.2⟩
theorem pt_join2 {b r m : Nat} {vs us : List Value} (hm : r + vs.length = m) : Imp (pt b r vs :: pt b m us :: H) (pt b r (vs ++ us) :: H) := by
  subst hm
  refine Imp.of_sat fun w I O h => ?_
  obtain ⟨O1, O2, h1, h2, h12, hA, P1, P2, g1, g2, g12, hB, hH⟩ := h
  refine ⟨fun b' o' => O1 b' o' ∨ P1 b' o', P2, fun _ _ x => x.elim (h1 _ _) (fun x => h2 _ _ (g1 _ _ x)), fun _ _ x => h2 _ _ (g2 _ _ x), fun _ _ x y => x.elim (fun x => h12 _ _ x (g2 _ _ y)) (fun x => g12 _ _ x y), ?_, hH⟩
  intro j hj
  rw [List.getElem_append]
  split
  · rename_i hl; exact ⟨.inl (hA j hl).1, (hA j hl).2⟩
  · rename_i hl
    have := hB (j - vs.length) (by rw [List.length_append] at hj; omega)
    rw [show r + vs.length + (j - vs.length) = r + j by omega] at this
    exact ⟨.inr this.1, this.2⟩
theorem pt_split3 {b r m l : Nat} {cs vs us ws : List Value} (h : cs = vs ++ (us ++ ws)) (hm : r + vs.length = m := by rfl) (hl : m + us.length = l := by rfl) : Imp (pt b r cs :: H) (pt b r vs :: pt b m us :: pt b l ws :: H) := by
  subst hm hl
  intro w hw
  have h1 := pt_split2 h w hw
  have h2 : Imp (pt b (r + vs.length) (us ++ ws) :: pt b r vs :: H) (pt b (r + vs.length) us :: pt b (r + vs.length + us.length) ws :: pt b r vs :: H) := pt_split2 rfl
  have h3 := h2 w ((Pull.s Pull.z).imp w h1)
  exact (Pull.s (Pull.s Pull.z)).imp w h3
theorem pt_join3 {b r m l : Nat} {vs us ws : List Value} (hm : r + vs.length = m) (hl : m + us.length = l) : Imp (pt b r vs :: pt b m us :: pt b l ws :: H) (pt b r (vs ++ (us ++ ws)) :: H) := by
  intro w hw
  have h1 : Holds w (pt b m us :: pt b l ws :: pt b r vs :: H) := (Sel.imp (.cons (.s .z) (.cons (.s .z) .all))) w hw
  have h2 := pt_join2 hl w h1
  exact pt_join2 hm w ((Pull.s Pull.z).imp w h2)

/-! an element of one's own -/
/-- a slice of one's own without one of its elements -/
def hole (k : Kd α) (a : Option Addr) (cap : Nat) (xs : List α) (i : Nat) : Asr where
  holds w I O := ∃ b r, a = some ⟨b, r, none⟩ ∧ i < xs.length ∧ xs.length ≤ cap ∧ (∀ t, t < cap * k.sz → ¬ (i * k.sz ≤ t ∧ t < i * k.sz + k.sz) → O b (r + t) ∧ ∃ v, at_ w b (r + t) = .cell v false) ∧
    ∀ j (hj : j < xs.length), j ≠ i → ∃ cs, k.rep w I cs xs[j] ∧ ∀ t (ht : t < cs.length), at_ w b (r + j * k.sz + t) = .cell cs[t] false
  mono := by
    rintro w w' I I' O O' ⟨b, r, ha, hi, hl, hc, hx⟩ hI hO hk
    refine ⟨b, r, ha, hi, hl, fun t ht hn => ?_, fun j hj hne => ?_⟩
    · obtain ⟨h1, v, h2⟩ := hc t ht hn
      exact ⟨hO _ _ h1, v, (hk.same _ _ (.inr h1)).trans h2⟩
    · obtain ⟨cs, hr, hcs⟩ := hx j hj hne
      refine ⟨cs, k.mono hr hI (hk.sub fun _ _ x => .inl x), fun t ht => (hk.same _ _ (.inr ?_)).trans (hcs t ht)⟩
      have e := k.len hr
      have h2 : (j + 1) * k.sz ≤ cap * k.sz := Nat.mul_le_mul_right _ (by omega)
      rw [Nat.add_mul, Nat.one_mul] at h2
      have := (hc (j * k.sz + t) (by omega) ?_).1
      · rwa [← Nat.add_assoc] at this
      · rintro ⟨h3, h4⟩
        rcases Nat.lt_or_gt_of_ne hne with h | h
        · have : (j + 1) * k.sz ≤ i * k.sz := Nat.mul_le_mul_right _ (by omega)
          rw [Nat.add_mul, Nat.one_mul] at this; omega
        · have : (i + 1) * k.sz ≤ j * k.sz := Nat.mul_le_mul_right _ (by omega)
          rw [Nat.add_mul, Nat.one_mul] at this; omega
theorem Ex.focus {k : Kd α} {a : Option Addr} {c i sz : Nat} {xs : List α} {x : α} {cells : β → List Value} {L : β → List Asr} (ho : Opens k x cells L) (hp : Pull (own k a c xs) H G) (hx : xs[i]? = some x) (hs : k.sz = sz) :
    Ex H (fun q : Nat × Nat × β => a = some ⟨q.1, q.2.1, none⟩) (fun q => L q.2.2 ++ (pt q.1 (q.2.1 + i * sz) (cells q.2.2) :: hole k a c xs i :: G)) := by
  subst hs
  intro w hw
  obtain ⟨I, O, hI, hO, hd, hs⟩ := hw
  obtain ⟨O1, O2, h1, h2, h12, hA, hH⟩ := hp.sat w I O hs
  have hi : i < xs.length := by
    rcases Nat.lt_or_ge i xs.length with h | h
    · exact h
    · rw [List.getElem?_eq_none h] at hx; cases hx
  rw [List.getElem?_eq_getElem hi, Option.some.injEq] at hx
  subst hx
  rcases hA with ⟨rfl, rfl, rfl⟩ | ⟨b, r, ha, hl, hc, he⟩
  · simp at hi
  · obtain ⟨cs, hr, hcs⟩ := he i hi
    have hlen := k.len hr
    have hle : (i + 1) * k.sz ≤ c * k.sz := Nat.mul_le_mul_right _ (by omega)
    rw [Nat.add_mul, Nat.one_mul] at hle
    obtain ⟨z, rfl, hz⟩ := ho w I cs hr
    refine ⟨(b, r, z), ha, I, O, hI, hO, hd, Sat.add hz ?_⟩
    refine ⟨fun b' o' => O1 b' o' ∧ b' = b ∧ r + i * k.sz ≤ o' ∧ o' < r + i * k.sz + k.sz, fun b' o' => (O1 b' o' ∧ ¬ (b' = b ∧ r + i * k.sz ≤ o' ∧ o' < r + i * k.sz + k.sz)) ∨ O2 b' o', fun _ _ x => h1 _ _ x.1, fun _ _ x => x.elim (fun x => h1 _ _ x.1) (h2 _ _), fun _ _ x y => y.elim (fun y => y.2 x.2) (h12 _ _ x.1), ?_,
      fun b' o' => O1 b' o' ∧ ¬ (b' = b ∧ r + i * k.sz ≤ o' ∧ o' < r + i * k.sz + k.sz), O2, fun _ _ x => .inl x, fun _ _ x => .inr x, fun _ _ x y => h12 _ _ x.1 y, ?_, hH⟩
    · intro j hj
      have hj' : j < (cells z).length := hj
      have := (hc (i * k.sz + j) (by omega)).1
      rw [← Nat.add_assoc] at this
      exact ⟨⟨this, rfl, by show r + i * k.sz ≤ r + i * k.sz + j; omega, by show r + i * k.sz + j < r + i * k.sz + k.sz; omega⟩, hcs j hj⟩
    · refine ⟨b, r, ha, hi, hl, fun t ht hn => ⟨⟨(hc t ht).1, fun h => hn ⟨by omega, by omega⟩⟩, (hc t ht).2⟩, fun j hj _ => he j hj⟩
theorem unfocus {k : Kd α} {b r m c i : Nat} {xs : List α} {cs : List Value} {x : α} (hm : r + i * k.sz = m) : Imp (rp k cs x :: pt b m cs :: hole k (some ⟨b, r, none⟩) c xs i :: H) (own k (some ⟨b, r, none⟩) c (xs.set i x) :: H) := by
  subst hm
  refine Imp.of_sat fun w I O h => ?_
  obtain ⟨O1, O2, h1, h2, h12, hR, O3, O4, h3, h4, h34, hA, O5, O6, h5, h6, h56, ⟨b', r', ha, hi, hl, hc, hx⟩, hH⟩ := h
  cases ha
  have hlen := k.len hR
  refine ⟨fun b' o' => O3 b' o' ∨ O5 b' o', O6, fun _ _ x => x.elim (fun x => h2 _ _ (h3 _ _ x)) (fun x => h2 _ _ (h4 _ _ (h5 _ _ x))), fun _ _ x => h2 _ _ (h4 _ _ (h6 _ _ x)), fun _ _ x y => x.elim (fun x => h34 _ _ x (h6 _ _ y)) (fun x => h56 _ _ x y), .inr ⟨b, r, rfl, by rw [List.length_set]; exact hl, fun t ht => ?_, fun j hj => ?_⟩, hH⟩
  · by_cases hn : i * k.sz ≤ t ∧ t < i * k.sz + k.sz
    · have := hA (t - i * k.sz) (by omega)
      rw [show r + i * k.sz + (t - i * k.sz) = r + t by omega] at this
      exact ⟨.inl this.1, _, this.2⟩
    · exact ⟨.inr (hc t ht hn).1, (hc t ht hn).2⟩
  · rw [List.length_set] at hj
    rw [List.getElem_set]
    split
    · rename_i e; subst e
      exact ⟨cs, hR, fun t ht => (hA t ht).2⟩
    · rename_i hne
      exact hx j hj (fun e => hne e.symm)
theorem unfocus_same {k : Kd α} {b r m c i : Nat} {xs : List α} {cs : List Value} {x : α} (hm : r + i * k.sz = m) (hx : xs[i]? = some x) : Imp (rp k cs x :: pt b m cs :: hole k (some ⟨b, r, none⟩) c xs i :: H) (own k (some ⟨b, r, none⟩) c xs :: H) := by
  intro w hw
  have h := unfocus hm w hw
  have e : xs.set i x = xs := by
    have hi : i < xs.length := by
      rcases Nat.lt_or_ge i xs.length with h | h
      · exact h
      · rw [List.getElem?_eq_none h] at hx; cases hx
    rw [List.getElem?_eq_getElem hi, Option.some.injEq] at hx
    rw [← hx, List.set_getElem_self]
  rwa [e] at h
theorem To.refr {fr' : Frm} (h : fr = fr') (k : To n K fr' H) : To n K fr H := h ▸ k
theorem Dr.refr {fr' : Frm} (h : fr = fr') (k : Dr P n ops Q M sp pre fr' H) : Dr P n ops Q M sp pre fr H := h ▸ k

/-! calls of function values, of methods behind interfaces -/
theorem st_callv {f : FuncId} {x : Operand} {xs : List Operand} {us fs cs : List Value} {ts : Array TypeId} {H0 : List Asr} {Φ : Value → List Asr → Prop} (ht : Tri P f (fs ++ us ++ cs) H0 Φ) (hop : o.op = .call { callee := .value x, args := ⟨xs⟩, argTypes := ts })
    (hx : xs.map (ev fr) = us.map some) (hf : Fun P f) (hs : Sel H (H0 ++ G)) (hv : ev fr x = some (.func (.func f) ⟨fs⟩ ⟨cs⟩)) : Step P o n fr H (fun v H' => ∃ H1, Φ v H1 ∧ H' = H1 ++ G) := by
  intro a w hk hw
  have hm := args_array hk hx
  have := ht w G (hs.imp w hw)
  simp only [execOp, hop, resolve, hm, Sem.run_bind, Sem.run_pure, Result.andThen_ok, hk.eval hv, Deferred.ofValue, invoke]
  have he : ((Array.mk fs ++ Array.mk us) ++ Array.mk cs : Array Value) = Array.mk (fs ++ us ++ cs) := by simp
  rw [he, hf.call]
  refine this.mono fun e w' he => ?_
  obtain ⟨v, H', rfl, h1, h2⟩ := he
  exact ⟨H' ++ G, ⟨H', h1, rfl⟩, h2⟩
/-- which function a method of a type is, whose receiver is the value itself -/
structure Meth (P : Program) (t : TypeId) (name : String) (f : FuncId) : Prop where
  run : ∀ v w, (method (P.types.size + Made.depth) t v name).run P w = .ok (f, v) w
theorem st_invoke {t : TypeId} {name : String} {f : FuncId} {x : Operand} {xs : List Operand} {v : Value} {us : List Value} {ts : Array TypeId} {H0 : List Asr} {Φ : Value → List Asr → Prop} (ht : Tri P f (v :: us) H0 Φ) (hop : o.op = .call { callee := .invoke x name, args := ⟨xs⟩, argTypes := ts })
    (hx : xs.map (ev fr) = us.map some) (hf : Fun P f) (hs : Sel H (H0 ++ G)) (hv : ev fr x = some (.iface t v)) (hm' : Meth P t name f) : Step P o n fr H (fun v H' => ∃ H1, Φ v H1 ∧ H' = H1 ++ G) := by
  intro a w hk hw
  have hm := args_array hk hx
  have := ht w G (hs.imp w hw)
  simp only [execOp, hop, resolve, hm, Sem.run_bind, Sem.run_pure, Result.andThen_ok, hk.eval hv, invoke]
  have h0 : (#[Value.iface t v] ++ Array.mk us : Array Value)[0]? = some (.iface t v) := by simp
  have h1 : (#[Value.iface t v] ++ Array.mk us : Array Value).extract 1 (#[Value.iface t v] ++ Array.mk us : Array Value).size = Array.mk us := by
    apply Array.ext' ; simp
  have hp : (program).run P w = .ok P w := rfl
  have he : (#[v] ++ Array.mk us : Array Value) = Array.mk (v :: us) := by simp
  simp only [h0, h1, callMethod, Sem.run_bind, hp, Result.andThen_ok, hm'.run v w, he, hf.call]
  refine this.mono fun e w' he => ?_
  obtain ⟨v, H', rfl, h1, h2⟩ := he
  exact ⟨H' ++ G, ⟨H', h1, rfl⟩, h2⟩
theorem Tri.intro9 {f : FuncId} {fn : Func} {c : Code} {args : List Value} {c0 c1 c2 c3 c4 c5 c6 c7 c8 : Asr} {Φ : Value → List Asr → Prop} (hf : P.funcs[f]? = some fn) (hb : fn.body = some c) (hn : fn.ntmps = n) (hl : Nat.ble args.length n = true)
    (h : ∀ F, To n (c.wp P (bodyPost P fn (fun e w' => ∃ v H', e = .returned v ∧ Φ v H' ∧ Holds w' (H' ++ F)))) (argf 0 args) (c0 :: c1 :: c2 :: c3 :: c4 :: c5 :: c6 :: c7 :: c8 :: F)) : Tri P f args [c0, c1, c2, c3, c4, c5, c6, c7, c8] Φ := Tri.intro (H1 := fun F => c0 :: c1 :: c2 :: c3 :: c4 :: c5 :: c6 :: c7 :: c8 :: F) hf hb hn hl rfl (fun _ => rfl) h
theorem To.app9 {c0 c1 c2 c3 c4 c5 c6 c7 c8 : Asr} {F : List Asr} (h : To n K fr (c0 :: c1 :: c2 :: c3 :: c4 :: c5 :: c6 :: c7 :: c8 :: F)) : To n K fr ([c0, c1, c2, c3, c4, c5, c6, c7, c8] ++ F) := h
theorem Tri.intro10 {f : FuncId} {fn : Func} {c : Code} {args : List Value} {c0 c1 c2 c3 c4 c5 c6 c7 c8 c9 : Asr} {Φ : Value → List Asr → Prop} (hf : P.funcs[f]? = some fn) (hb : fn.body = some c) (hn : fn.ntmps = n) (hl : Nat.ble args.length n = true)
    (h : ∀ F, To n (c.wp P (bodyPost P fn (fun e w' => ∃ v H', e = .returned v ∧ Φ v H' ∧ Holds w' (H' ++ F)))) (argf 0 args) (c0 :: c1 :: c2 :: c3 :: c4 :: c5 :: c6 :: c7 :: c8 :: c9 :: F)) : Tri P f args [c0, c1, c2, c3, c4, c5, c6, c7, c8, c9] Φ := Tri.intro (H1 := fun F => c0 :: c1 :: c2 :: c3 :: c4 :: c5 :: c6 :: c7 :: c8 :: c9 :: F) hf hb hn hl rfl (fun _ => rfl) h
theorem To.app10 {c0 c1 c2 c3 c4 c5 c6 c7 c8 c9 : Asr} {F : List Asr} (h : To n K fr (c0 :: c1 :: c2 :: c3 :: c4 :: c5 :: c6 :: c7 :: c8 :: c9 :: F)) : To n K fr ([c0, c1, c2, c3, c4, c5, c6, c7, c8, c9] ++ F) := h
theorem Tri.intro11 {f : FuncId} {fn : Func} {c : Code} {args : List Value} {c0 c1 c2 c3 c4 c5 c6 c7 c8 c9 c10 : Asr} {Φ : Value → List Asr → Prop} (hf : P.funcs[f]? = some fn) (hb : fn.body = some c) (hn : fn.ntmps = n) (hl : Nat.ble args.length n = true)
    (h : ∀ F, To n (c.wp P (bodyPost P fn (fun e w' => ∃ v H', e = .returned v ∧ Φ v H' ∧ Holds w' (H' ++ F)))) (argf 0 args) (c0 :: c1 :: c2 :: c3 :: c4 :: c5 :: c6 :: c7 :: c8 :: c9 :: c10 :: F)) : Tri P f args [c0, c1, c2, c3, c4, c5, c6, c7, c8, c9, c10] Φ := Tri.intro (H1 := fun F => c0 :: c1 :: c2 :: c3 :: c4 :: c5 :: c6 :: c7 :: c8 :: c9 :: c10 :: F) hf hb hn hl rfl (fun _ => rfl) h
theorem To.app11 {c0 c1 c2 c3 c4 c5 c6 c7 c8 c9 c10 : Asr} {F : List Asr} (h : To n K fr (c0 :: c1 :: c2 :: c3 :: c4 :: c5 :: c6 :: c7 :: c8 :: c9 :: c10 :: F)) : To n K fr ([c0, c1, c2, c3, c4, c5, c6, c7, c8, c9, c10] ++ F) := h
theorem Tri.intro12 {f : FuncId} {fn : Func} {c : Code} {args : List Value} {c0 c1 c2 c3 c4 c5 c6 c7 c8 c9 c10 c11 : Asr} {Φ : Value → List Asr → Prop} (hf : P.funcs[f]? = some fn) (hb : fn.body = some c) (hn : fn.ntmps = n) (hl : Nat.ble args.length n = true)
    (h : ∀ F, To n (c.wp P (bodyPost P fn (fun e w' => ∃ v H', e = .returned v ∧ Φ v H' ∧ Holds w' (H' ++ F)))) (argf 0 args) (c0 :: c1 :: c2 :: c3 :: c4 :: c5 :: c6 :: c7 :: c8 :: c9 :: c10 :: c11 :: F)) : Tri P f args [c0, c1, c2, c3, c4, c5, c6, c7, c8, c9, c10, c11] Φ := Tri.intro (H1 := fun F => c0 :: c1 :: c2 :: c3 :: c4 :: c5 :: c6 :: c7 :: c8 :: c9 :: c10 :: c11 :: F) hf hb hn hl rfl (fun _ => rfl) h
theorem To.app12 {c0 c1 c2 c3 c4 c5 c6 c7 c8 c9 c10 c11 : Asr} {F : List Asr} (h : To n K fr (c0 :: c1 :: c2 :: c3 :: c4 :: c5 :: c6 :: c7 :: c8 :: c9 :: c10 :: c11 :: F)) : To n K fr ([c0, c1, c2, c3, c4, c5, c6, c7, c8, c9, c10, c11] ++ F) := h
theorem Tri.intro13 {f : FuncId} {fn : Func} {c : Code} {args : List Value} {c0 c1 c2 c3 c4 c5 c6 c7 c8 c9 c10 c11 c12 : Asr} {Φ : Value → List Asr → Prop} (hf : P.funcs[f]? = some fn) (hb : fn.body = some c) (hn : fn.ntmps = n) (hl : Nat.ble args.length n = true)
    (h : ∀ F, To n (c.wp P (bodyPost P fn (fun e w' => ∃ v H', e = .returned v ∧ Φ v H' ∧ Holds w' (H' ++ F)))) (argf 0 args) (c0 :: c1 :: c2 :: c3 :: c4 :: c5 :: c6 :: c7 :: c8 :: c9 :: c10 :: c11 :: c12 :: F)) : Tri P f args [c0, c1, c2, c3, c4, c5, c6, c7, c8, c9, c10, c11, c12] Φ := Tri.intro (H1 := fun F => c0 :: c1 :: c2 :: c3 :: c4 :: c5 :: c6 :: c7 :: c8 :: c9 :: c10 :: c11 :: c12 :: F) hf hb hn hl rfl (fun _ => rfl) h
theorem To.app13 {c0 c1 c2 c3 c4 c5 c6 c7 c8 c9 c10 c11 c12 : Asr} {F : List Asr} (h : To n K fr (c0 :: c1 :: c2 :: c3 :: c4 :: c5 :: c6 :: c7 :: c8 :: c9 :: c10 :: c11 :: c12 :: F)) : To n K fr ([c0, c1, c2, c3, c4, c5, c6, c7, c8, c9, c10, c11, c12] ++ F) := h
theorem Tri.intro14 {f : FuncId} {fn : Func} {c : Code} {args : List Value} {c0 c1 c2 c3 c4 c5 c6 c7 c8 c9 c10 c11 c12 c13 : Asr} {Φ : Value → List Asr → Prop} (hf : P.funcs[f]? = some fn) (hb : fn.body = some c) (hn : fn.ntmps = n) (hl : Nat.ble args.length n = true)
    (h : ∀ F, To n (c.wp P (bodyPost P fn (fun e w' => ∃ v H', e = .returned v ∧ Φ v H' ∧ Holds w' (H' ++ F)))) (argf 0 args) (c0 :: c1 :: c2 :: c3 :: c4 :: c5 :: c6 :: c7 :: c8 :: c9 :: c10 :: c11 :: c12 :: c13 :: F)) : Tri P f args [c0, c1, c2, c3, c4, c5, c6, c7, c8, c9, c10, c11, c12, c13] Φ := Tri.intro (H1 := fun F => c0 :: c1 :: c2 :: c3 :: c4 :: c5 :: c6 :: c7 :: c8 :: c9 :: c10 :: c11 :: c12 :: c13 :: F) hf hb hn hl rfl (fun _ => rfl) h
theorem To.app14 {c0 c1 c2 c3 c4 c5 c6 c7 c8 c9 c10 c11 c12 c13 : Asr} {F : List Asr} (h : To n K fr (c0 :: c1 :: c2 :: c3 :: c4 :: c5 :: c6 :: c7 :: c8 :: c9 :: c10 :: c11 :: c12 :: c13 :: F)) : To n K fr ([c0, c1, c2, c3, c4, c5, c6, c7, c8, c9, c10, c11, c12, c13] ++ F) := h
theorem Tri.intro15 {f : FuncId} {fn : Func} {c : Code} {args : List Value} {c0 c1 c2 c3 c4 c5 c6 c7 c8 c9 c10 c11 c12 c13 c14 : Asr} {Φ : Value → List Asr → Prop} (hf : P.funcs[f]? = some fn) (hb : fn.body = some c) (hn : fn.ntmps = n) (hl : Nat.ble args.length n = true)
    (h : ∀ F, To n (c.wp P (bodyPost P fn (fun e w' => ∃ v H', e = .returned v ∧ Φ v H' ∧ Holds w' (H' ++ F)))) (argf 0 args) (c0 :: c1 :: c2 :: c3 :: c4 :: c5 :: c6 :: c7 :: c8 :: c9 :: c10 :: c11 :: c12 :: c13 :: c14 :: F)) : Tri P f args [c0, c1, c2, c3, c4, c5, c6, c7, c8, c9, c10, c11, c12, c13, c14] Φ := Tri.intro (H1 := fun F => c0 :: c1 :: c2 :: c3 :: c4 :: c5 :: c6 :: c7 :: c8 :: c9 :: c10 :: c11 :: c12 :: c13 :: c14 :: F) hf hb hn hl rfl (fun _ => rfl) h
theorem To.app15 {c0 c1 c2 c3 c4 c5 c6 c7 c8 c9 c10 c11 c12 c13 c14 : Asr} {F : List Asr} (h : To n K fr (c0 :: c1 :: c2 :: c3 :: c4 :: c5 :: c6 :: c7 :: c8 :: c9 :: c10 :: c11 :: c12 :: c13 :: c14 :: F)) : To n K fr ([c0, c1, c2, c3, c4, c5, c6, c7, c8, c9, c10, c11, c12, c13, c14] ++ F) := h
theorem Tri.intro16 {f : FuncId} {fn : Func} {c : Code} {args : List Value} {c0 c1 c2 c3 c4 c5 c6 c7 c8 c9 c10 c11 c12 c13 c14 c15 : Asr} {Φ : Value → List Asr → Prop} (hf : P.funcs[f]? = some fn) (hb : fn.body = some c) (hn : fn.ntmps = n) (hl : Nat.ble args.length n = true)
    (h : ∀ F, To n (c.wp P (bodyPost P fn (fun e w' => ∃ v H', e = .returned v ∧ Φ v H' ∧ Holds w' (H' ++ F)))) (argf 0 args) (c0 :: c1 :: c2 :: c3 :: c4 :: c5 :: c6 :: c7 :: c8 :: c9 :: c10 :: c11 :: c12 :: c13 :: c14 :: c15 :: F)) : Tri P f args [c0, c1, c2, c3, c4, c5, c6, c7, c8, c9, c10, c11, c12, c13, c14, c15] Φ := Tri.intro (H1 := fun F => c0 :: c1 :: c2 :: c3 :: c4 :: c5 :: c6 :: c7 :: c8 :: c9 :: c10 :: c11 :: c12 :: c13 :: c14 :: c15 :: F) hf hb hn hl rfl (fun _ => rfl) h
theorem To.app16 {c0 c1 c2 c3 c4 c5 c6 c7 c8 c9 c10 c11 c12 c13 c14 c15 : Asr} {F : List Asr} (h : To n K fr (c0 :: c1 :: c2 :: c3 :: c4 :: c5 :: c6 :: c7 :: c8 :: c9 :: c10 :: c11 :: c12 :: c13 :: c14 :: c15 :: F)) : To n K fr ([c0, c1, c2, c3, c4, c5, c6, c7, c8, c9, c10, c11, c12, c13, c14, c15] ++ F) := h
theorem Tri.intro17 {f : FuncId} {fn : Func} {c : Code} {args : List Value} {c0 c1 c2 c3 c4 c5 c6 c7 c8 c9 c10 c11 c12 c13 c14 c15 c16 : Asr} {Φ : Value → List Asr → Prop} (hf : P.funcs[f]? = some fn) (hb : fn.body = some c) (hn : fn.ntmps = n) (hl : Nat.ble args.length n = true)
    (h : ∀ F, To n (c.wp P (bodyPost P fn (fun e w' => ∃ v H', e = .returned v ∧ Φ v H' ∧ Holds w' (H' ++ F)))) (argf 0 args) (c0 :: c1 :: c2 :: c3 :: c4 :: c5 :: c6 :: c7 :: c8 :: c9 :: c10 :: c11 :: c12 :: c13 :: c14 :: c15 :: c16 :: F)) : Tri P f args [c0, c1, c2, c3, c4, c5, c6, c7, c8, c9, c10, c11, c12, c13, c14, c15, c16] Φ := Tri.intro (H1 := fun F => c0 :: c1 :: c2 :: c3 :: c4 :: c5 :: c6 :: c7 :: c8 :: c9 :: c10 :: c11 :: c12 :: c13 :: c14 :: c15 :: c16 :: F) hf hb hn hl rfl (fun _ => rfl) h
theorem To.app17 {c0 c1 c2 c3 c4 c5 c6 c7 c8 c9 c10 c11 c12 c13 c14 c15 c16 : Asr} {F : List Asr} (h : To n K fr (c0 :: c1 :: c2 :: c3 :: c4 :: c5 :: c6 :: c7 :: c8 :: c9 :: c10 :: c11 :: c12 :: c13 :: c14 :: c15 :: c16 :: F)) : To n K fr ([c0, c1, c2, c3, c4, c5, c6, c7, c8, c9, c10, c11, c12, c13, c14, c15, c16] ++ F) := h
theorem Tri.intro18 {f : FuncId} {fn : Func} {c : Code} {args : List Value} {c0 c1 c2 c3 c4 c5 c6 c7 c8 c9 c10 c11 c12 c13 c14 c15 c16 c17 : Asr} {Φ : Value → List Asr → Prop} (hf : P.funcs[f]? = some fn) (hb : fn.body = some c) (hn : fn.ntmps = n) (hl : Nat.ble args.length n = true)
    (h : ∀ F, To n (c.wp P (bodyPost P fn (fun e w' => ∃ v H', e = .returned v ∧ Φ v H' ∧ Holds w' (H' ++ F)))) (argf 0 args) (c0 :: c1 :: c2 :: c3 :: c4 :: c5 :: c6 :: c7 :: c8 :: c9 :: c10 :: c11 :: c12 :: c13 :: c14 :: c15 :: c16 :: c17 :: F)) : Tri P f args [c0, c1, c2, c3, c4, c5, c6, c7, c8, c9, c10, c11, c12, c13, c14, c15, c16, c17] Φ := Tri.intro (H1 := fun F => c0 :: c1 :: c2 :: c3 :: c4 :: c5 :: c6 :: c7 :: c8 :: c9 :: c10 :: c11 :: c12 :: c13 :: c14 :: c15 :: c16 :: c17 :: F) hf hb hn hl rfl (fun _ => rfl) h
theorem To.app18 {c0 c1 c2 c3 c4 c5 c6 c7 c8 c9 c10 c11 c12 c13 c14 c15 c16 c17 : Asr} {F : List Asr} (h : To n K fr (c0 :: c1 :: c2 :: c3 :: c4 :: c5 :: c6 :: c7 :: c8 :: c9 :: c10 :: c11 :: c12 :: c13 :: c14 :: c15 :: c16 :: c17 :: F)) : To n K fr ([c0, c1, c2, c3, c4, c5, c6, c7, c8, c9, c10, c11, c12, c13, c14, c15, c16, c17] ++ F) := h
theorem Tri.intro19 {f : FuncId} {fn : Func} {c : Code} {args : List Value} {c0 c1 c2 c3 c4 c5 c6 c7 c8 c9 c10 c11 c12 c13 c14 c15 c16 c17 c18 : Asr} {Φ : Value → List Asr → Prop} (hf : P.funcs[f]? = some fn) (hb : fn.body = some c) (hn : fn.ntmps = n) (hl : Nat.ble args.length n = true)
    (h : ∀ F, To n (c.wp P (bodyPost P fn (fun e w' => ∃ v H', e = .returned v ∧ Φ v H' ∧ Holds w' (H' ++ F)))) (argf 0 args) (c0 :: c1 :: c2 :: c3 :: c4 :: c5 :: c6 :: c7 :: c8 :: c9 :: c10 :: c11 :: c12 :: c13 :: c14 :: c15 :: c16 :: c17 :: c18 :: F)) : Tri P f args [c0, c1, c2, c3, c4, c5, c6, c7, c8, c9, c10, c11, c12, c13, c14, c15, c16, c17, c18] Φ := Tri.intro (H1 := fun F => c0 :: c1 :: c2 :: c3 :: c4 :: c5 :: c6 :: c7 :: c8 :: c9 :: c10 :: c11 :: c12 :: c13 :: c14 :: c15 :: c16 :: c17 :: c18 :: F) hf hb hn hl rfl (fun _ => rfl) h
theorem To.app19 {c0 c1 c2 c3 c4 c5 c6 c7 c8 c9 c10 c11 c12 c13 c14 c15 c16 c17 c18 : Asr} {F : List Asr} (h : To n K fr (c0 :: c1 :: c2 :: c3 :: c4 :: c5 :: c6 :: c7 :: c8 :: c9 :: c10 :: c11 :: c12 :: c13 :: c14 :: c15 :: c16 :: c17 :: c18 :: F)) : To n K fr ([c0, c1, c2, c3, c4, c5, c6, c7, c8, c9, c10, c11, c12, c13, c14, c15, c16, c17, c18] ++ F) := h
theorem Tri.intro20 {f : FuncId} {fn : Func} {c : Code} {args : List Value} {c0 c1 c2 c3 c4 c5 c6 c7 c8 c9 c10 c11 c12 c13 c14 c15 c16 c17 c18 c19 : Asr} {Φ : Value → List Asr → Prop} (hf : P.funcs[f]? = some fn) (hb : fn.body = some c) (hn : fn.ntmps = n) (hl : Nat.ble args.length n = true)
    (h : ∀ F, To n (c.wp P (bodyPost P fn (fun e w' => ∃ v H', e = .returned v ∧ Φ v H' ∧ Holds w' (H' ++ F)))) (argf 0 args) (c0 :: c1 :: c2 :: c3 :: c4 :: c5 :: c6 :: c7 :: c8 :: c9 :: c10 :: c11 :: c12 :: c13 :: c14 :: c15 :: c16 :: c17 :: c18 :: c19 :: F)) : Tri P f args [c0, c1, c2, c3, c4, c5, c6, c7, c8, c9, c10, c11, c12, c13, c14, c15, c16, c17, c18, c19] Φ := Tri.intro (H1 := fun F => c0 :: c1 :: c2 :: c3 :: c4 :: c5 :: c6 :: c7 :: c8 :: c9 :: c10 :: c11 :: c12 :: c13 :: c14 :: c15 :: c16 :: c17 :: c18 :: c19 :: F) hf hb hn hl rfl (fun _ => rfl) h
theorem To.app20 {c0 c1 c2 c3 c4 c5 c6 c7 c8 c9 c10 c11 c12 c13 c14 c15 c16 c17 c18 c19 : Asr} {F : List Asr} (h : To n K fr (c0 :: c1 :: c2 :: c3 :: c4 :: c5 :: c6 :: c7 :: c8 :: c9 :: c10 :: c11 :: c12 :: c13 :: c14 :: c15 :: c16 :: c17 :: c18 :: c19 :: F)) : To n K fr ([c0, c1, c2, c3, c4, c5, c6, c7, c8, c9, c10, c11, c12, c13, c14, c15, c16, c17, c18, c19] ++ F) := h
theorem Tri.intro21 {f : FuncId} {fn : Func} {c : Code} {args : List Value} {c0 c1 c2 c3 c4 c5 c6 c7 c8 c9 c10 c11 c12 c13 c14 c15 c16 c17 c18 c19 c20 : Asr} {Φ : Value → List Asr → Prop} (hf : P.funcs[f]? = some fn) (hb : fn.body = some c) (hn : fn.ntmps = n) (hl : Nat.ble args.length n = true)
    (h : ∀ F, To n (c.wp P (bodyPost P fn (fun e w' => ∃ v H', e = .returned v ∧ Φ v H' ∧ Holds w' (H' ++ F)))) (argf 0 args) (c0 :: c1 :: c2 :: c3 :: c4 :: c5 :: c6 :: c7 :: c8 :: c9 :: c10 :: c11 :: c12 :: c13 :: c14 :: c15 :: c16 :: c17 :: c18 :: c19 :: c20 :: F)) : Tri P f args [c0, c1, c2, c3, c4, c5, c6, c7, c8, c9, c10, c11, c12, c13, c14, c15, c16, c17, c18, c19, c20] Φ := Tri.intro (H1 := fun F => c0 :: c1 :: c2 :: c3 :: c4 :: c5 :: c6 :: c7 :: c8 :: c9 :: c10 :: c11 :: c12 :: c13 :: c14 :: c15 :: c16 :: c17 :: c18 :: c19 :: c20 :: F) hf hb hn hl rfl (fun _ => rfl) h
theorem To.app21 {c0 c1 c2 c3 c4 c5 c6 c7 c8 c9 c10 c11 c12 c13 c14 c15 c16 c17 c18 c19 c20 : Asr} {F : List Asr} (h : To n K fr (c0 :: c1 :: c2 :: c3 :: c4 :: c5 :: c6 :: c7 :: c8 :: c9 :: c10 :: c11 :: c12 :: c13 :: c14 :: c15 :: c16 :: c17 :: c18 :: c19 :: c20 :: F)) : To n K fr ([c0, c1, c2, c3, c4, c5, c6, c7, c8, c9, c10, c11, c12, c13, c14, c15, c16, c17, c18, c19, c20] ++ F) := h
theorem Tri.intro22 {f : FuncId} {fn : Func} {c : Code} {args : List Value} {c0 c1 c2 c3 c4 c5 c6 c7 c8 c9 c10 c11 c12 c13 c14 c15 c16 c17 c18 c19 c20 c21 : Asr} {Φ : Value → List Asr → Prop} (hf : P.funcs[f]? = some fn) (hb : fn.body = some c) (hn : fn.ntmps = n) (hl : Nat.ble args.length n = true)
    (h : ∀ F, To n (c.wp P (bodyPost P fn (fun e w' => ∃ v H', e = .returned v ∧ Φ v H' ∧ Holds w' (H' ++ F)))) (argf 0 args) (c0 :: c1 :: c2 :: c3 :: c4 :: c5 :: c6 :: c7 :: c8 :: c9 :: c10 :: c11 :: c12 :: c13 :: c14 :: c15 :: c16 :: c17 :: c18 :: c19 :: c20 :: c21 :: F)) : Tri P f args [c0, c1, c2, c3, c4, c5, c6, c7, c8, c9, c10, c11, c12, c13, c14, c15, c16, c17, c18, c19, c20, c21] Φ := Tri.intro (H1 := fun F => c0 :: c1 :: c2 :: c3 :: c4 :: c5 :: c6 :: c7 :: c8 :: c9 :: c10 :: c11 :: c12 :: c13 :: c14 :: c15 :: c16 :: c17 :: c18 :: c19 :: c20 :: c21 :: F) hf hb hn hl rfl (fun _ => rfl) h
theorem To.app22 {c0 c1 c2 c3 c4 c5 c6 c7 c8 c9 c10 c11 c12 c13 c14 c15 c16 c17 c18 c19 c20 c21 : Asr} {F : List Asr} (h : To n K fr (c0 :: c1 :: c2 :: c3 :: c4 :: c5 :: c6 :: c7 :: c8 :: c9 :: c10 :: c11 :: c12 :: c13 :: c14 :: c15 :: c16 :: c17 :: c18 :: c19 :: c20 :: c21 :: F)) : To n K fr ([c0, c1, c2, c3, c4, c5, c6, c7, c8, c9, c10, c11, c12, c13, c14, c15, c16, c17, c18, c19, c20, c21] ++ F) := h
theorem Tri.intro23 {f : FuncId} {fn : Func} {c : Code} {args : List Value} {c0 c1 c2 c3 c4 c5 c6 c7 c8 c9 c10 c11 c12 c13 c14 c15 c16 c17 c18 c19 c20 c21 c22 : Asr} {Φ : Value → List Asr → Prop} (hf : P.funcs[f]? = some fn) (hb : fn.body = some c) (hn : fn.ntmps = n) (hl : Nat.ble args.length n = true)
    (h : ∀ F, To n (c.wp P (bodyPost P fn (fun e w' => ∃ v H', e = .returned v ∧ Φ v H' ∧ Holds w' (H' ++ F)))) (argf 0 args) (c0 :: c1 :: c2 :: c3 :: c4 :: c5 :: c6 :: c7 :: c8 :: c9 :: c10 :: c11 :: c12 :: c13 :: c14 :: c15 :: c16 :: c17 :: c18 :: c19 :: c20 :: c21 :: c22 :: F)) : Tri P f args [c0, c1, c2, c3, c4, c5, c6, c7, c8, c9, c10, c11, c12, c13, c14, c15, c16, c17, c18, c19, c20, c21, c22] Φ := Tri.intro (H1 := fun F => c0 :: c1 :: c2 :: c3 :: c4 :: c5 :: c6 :: c7 :: c8 :: c9 :: c10 :: c11 :: c12 :: c13 :: c14 :: c15 :: c16 :: c17 :: c18 :: c19 :: c20 :: c21 :: c22 :: F) hf hb hn hl rfl (fun _ => rfl) h
theorem To.app23 {c0 c1 c2 c3 c4 c5 c6 c7 c8 c9 c10 c11 c12 c13 c14 c15 c16 c17 c18 c19 c20 c21 c22 : Asr} {F : List Asr} (h : To n K fr (c0 :: c1 :: c2 :: c3 :: c4 :: c5 :: c6 :: c7 :: c8 :: c9 :: c10 :: c11 :: c12 :: c13 :: c14 :: c15 :: c16 :: c17 :: c18 :: c19 :: c20 :: c21 :: c22 :: F)) : To n K fr ([c0, c1, c2, c3, c4, c5, c6, c7, c8, c9, c10, c11, c12, c13, c14, c15, c16, c17, c18, c19, c20, c21, c22] ++ F) := h
theorem Tri.intro24 {f : FuncId} {fn : Func} {c : Code} {args : List Value} {c0 c1 c2 c3 c4 c5 c6 c7 c8 c9 c10 c11 c12 c13 c14 c15 c16 c17 c18 c19 c20 c21 c22 c23 : Asr} {Φ : Value → List Asr → Prop} (hf : P.funcs[f]? = some fn) (hb : fn.body = some c) (hn : fn.ntmps = n) (hl : Nat.ble args.length n = true)
    (h : ∀ F, To n (c.wp P (bodyPost P fn (fun e w' => ∃ v H', e = .returned v ∧ Φ v H' ∧ Holds w' (H' ++ F)))) (argf 0 args) (c0 :: c1 :: c2 :: c3 :: c4 :: c5 :: c6 :: c7 :: c8 :: c9 :: c10 :: c11 :: c12 :: c13 :: c14 :: c15 :: c16 :: c17 :: c18 :: c19 :: c20 :: c21 :: c22 :: c23 :: F)) : Tri P f args [c0, c1, c2, c3, c4, c5, c6, c7, c8, c9, c10, c11, c12, c13, c14, c15, c16, c17, c18, c19, c20, c21, c22, c23] Φ := Tri.intro (H1 := fun F => c0 :: c1 :: c2 :: c3 :: c4 :: c5 :: c6 :: c7 :: c8 :: c9 :: c10 :: c11 :: c12 :: c13 :: c14 :: c15 :: c16 :: c17 :: c18 :: c19 :: c20 :: c21 :: c22 :: c23 :: F) hf hb hn hl rfl (fun _ => rfl) h
theorem To.app24 {c0 c1 c2 c3 c4 c5 c6 c7 c8 c9 c10 c11 c12 c13 c14 c15 c16 c17 c18 c19 c20 c21 c22 c23 : Asr} {F : List Asr} (h : To n K fr (c0 :: c1 :: c2 :: c3 :: c4 :: c5 :: c6 :: c7 :: c8 :: c9 :: c10 :: c11 :: c12 :: c13 :: c14 :: c15 :: c16 :: c17 :: c18 :: c19 :: c20 :: c21 :: c22 :: c23 :: F)) : To n K fr ([c0, c1, c2, c3, c4, c5, c6, c7, c8, c9, c10, c11, c12, c13, c14, c15, c16, c17, c18, c19, c20, c21, c22, c23] ++ F) := h
theorem Dr.app5 {c0 c1 c2 c3 c4 : Asr} {F : List Asr} (h : Dr P n ops Q M sp pre fr (c0 :: c1 :: c2 :: c3 :: c4 :: F)) : Dr P n ops Q M sp pre fr ([c0, c1, c2, c3, c4] ++ F) := h
theorem Dr.app6 {c0 c1 c2 c3 c4 c5 : Asr} {F : List Asr} (h : Dr P n ops Q M sp pre fr (c0 :: c1 :: c2 :: c3 :: c4 :: c5 :: F)) : Dr P n ops Q M sp pre fr ([c0, c1, c2, c3, c4, c5] ++ F) := h
theorem Dr.app7 {c0 c1 c2 c3 c4 c5 c6 : Asr} {F : List Asr} (h : Dr P n ops Q M sp pre fr (c0 :: c1 :: c2 :: c3 :: c4 :: c5 :: c6 :: F)) : Dr P n ops Q M sp pre fr ([c0, c1, c2, c3, c4, c5, c6] ++ F) := h
theorem Dr.app8 {c0 c1 c2 c3 c4 c5 c6 c7 : Asr} {F : List Asr} (h : Dr P n ops Q M sp pre fr (c0 :: c1 :: c2 :: c3 :: c4 :: c5 :: c6 :: c7 :: F)) : Dr P n ops Q M sp pre fr ([c0, c1, c2, c3, c4, c5, c6, c7] ++ F) := h
theorem Dr.app9 {c0 c1 c2 c3 c4 c5 c6 c7 c8 : Asr} {F : List Asr} (h : Dr P n ops Q M sp pre fr (c0 :: c1 :: c2 :: c3 :: c4 :: c5 :: c6 :: c7 :: c8 :: F)) : Dr P n ops Q M sp pre fr ([c0, c1, c2, c3, c4, c5, c6, c7, c8] ++ F) := h
theorem Dr.app10 {c0 c1 c2 c3 c4 c5 c6 c7 c8 c9 : Asr} {F : List Asr} (h : Dr P n ops Q M sp pre fr (c0 :: c1 :: c2 :: c3 :: c4 :: c5 :: c6 :: c7 :: c8 :: c9 :: F)) : Dr P n ops Q M sp pre fr ([c0, c1, c2, c3, c4, c5, c6, c7, c8, c9] ++ F) := h
theorem Dr.app11 {c0 c1 c2 c3 c4 c5 c6 c7 c8 c9 c10 : Asr} {F : List Asr} (h : Dr P n ops Q M sp pre fr (c0 :: c1 :: c2 :: c3 :: c4 :: c5 :: c6 :: c7 :: c8 :: c9 :: c10 :: F)) : Dr P n ops Q M sp pre fr ([c0, c1, c2, c3, c4, c5, c6, c7, c8, c9, c10] ++ F) := h
theorem Dr.app12 {c0 c1 c2 c3 c4 c5 c6 c7 c8 c9 c10 c11 : Asr} {F : List Asr} (h : Dr P n ops Q M sp pre fr (c0 :: c1 :: c2 :: c3 :: c4 :: c5 :: c6 :: c7 :: c8 :: c9 :: c10 :: c11 :: F)) : Dr P n ops Q M sp pre fr ([c0, c1, c2, c3, c4, c5, c6, c7, c8, c9, c10, c11] ++ F) := h
theorem Dr.app13 {c0 c1 c2 c3 c4 c5 c6 c7 c8 c9 c10 c11 c12 : Asr} {F : List Asr} (h : Dr P n ops Q M sp pre fr (c0 :: c1 :: c2 :: c3 :: c4 :: c5 :: c6 :: c7 :: c8 :: c9 :: c10 :: c11 :: c12 :: F)) : Dr P n ops Q M sp pre fr ([c0, c1, c2, c3, c4, c5, c6, c7, c8, c9, c10, c11, c12] ++ F) := h
theorem Dr.app14 {c0 c1 c2 c3 c4 c5 c6 c7 c8 c9 c10 c11 c12 c13 : Asr} {F : List Asr} (h : Dr P n ops Q M sp pre fr (c0 :: c1 :: c2 :: c3 :: c4 :: c5 :: c6 :: c7 :: c8 :: c9 :: c10 :: c11 :: c12 :: c13 :: F)) : Dr P n ops Q M sp pre fr ([c0, c1, c2, c3, c4, c5, c6, c7, c8, c9, c10, c11, c12, c13] ++ F) := h
theorem Dr.app15 {c0 c1 c2 c3 c4 c5 c6 c7 c8 c9 c10 c11 c12 c13 c14 : Asr} {F : List Asr} (h : Dr P n ops Q M sp pre fr (c0 :: c1 :: c2 :: c3 :: c4 :: c5 :: c6 :: c7 :: c8 :: c9 :: c10 :: c11 :: c12 :: c13 :: c14 :: F)) : Dr P n ops Q M sp pre fr ([c0, c1, c2, c3, c4, c5, c6, c7, c8, c9, c10, c11, c12, c13, c14] ++ F) := h
theorem Dr.app16 {c0 c1 c2 c3 c4 c5 c6 c7 c8 c9 c10 c11 c12 c13 c14 c15 : Asr} {F : List Asr} (h : Dr P n ops Q M sp pre fr (c0 :: c1 :: c2 :: c3 :: c4 :: c5 :: c6 :: c7 :: c8 :: c9 :: c10 :: c11 :: c12 :: c13 :: c14 :: c15 :: F)) : Dr P n ops Q M sp pre fr ([c0, c1, c2, c3, c4, c5, c6, c7, c8, c9, c10, c11, c12, c13, c14, c15] ++ F) := h
theorem Dr.app17 {c0 c1 c2 c3 c4 c5 c6 c7 c8 c9 c10 c11 c12 c13 c14 c15 c16 : Asr} {F : List Asr} (h : Dr P n ops Q M sp pre fr (c0 :: c1 :: c2 :: c3 :: c4 :: c5 :: c6 :: c7 :: c8 :: c9 :: c10 :: c11 :: c12 :: c13 :: c14 :: c15 :: c16 :: F)) : Dr P n ops Q M sp pre fr ([c0, c1, c2, c3, c4, c5, c6, c7, c8, c9, c10, c11, c12, c13, c14, c15, c16] ++ F) := h
theorem Dr.app18 {c0 c1 c2 c3 c4 c5 c6 c7 c8 c9 c10 c11 c12 c13 c14 c15 c16 c17 : Asr} {F : List Asr} (h : Dr P n ops Q M sp pre fr (c0 :: c1 :: c2 :: c3 :: c4 :: c5 :: c6 :: c7 :: c8 :: c9 :: c10 :: c11 :: c12 :: c13 :: c14 :: c15 :: c16 :: c17 :: F)) : Dr P n ops Q M sp pre fr ([c0, c1, c2, c3, c4, c5, c6, c7, c8, c9, c10, c11, c12, c13, c14, c15, c16, c17] ++ F) := h
theorem Dr.app19 {c0 c1 c2 c3 c4 c5 c6 c7 c8 c9 c10 c11 c12 c13 c14 c15 c16 c17 c18 : Asr} {F : List Asr} (h : Dr P n ops Q M sp pre fr (c0 :: c1 :: c2 :: c3 :: c4 :: c5 :: c6 :: c7 :: c8 :: c9 :: c10 :: c11 :: c12 :: c13 :: c14 :: c15 :: c16 :: c17 :: c18 :: F)) : Dr P n ops Q M sp pre fr ([c0, c1, c2, c3, c4, c5, c6, c7, c8, c9, c10, c11, c12, c13, c14, c15, c16, c17, c18] ++ F) := h
theorem Dr.app20 {c0 c1 c2 c3 c4 c5 c6 c7 c8 c9 c10 c11 c12 c13 c14 c15 c16 c17 c18 c19 : Asr} {F : List Asr} (h : Dr P n ops Q M sp pre fr (c0 :: c1 :: c2 :: c3 :: c4 :: c5 :: c6 :: c7 :: c8 :: c9 :: c10 :: c11 :: c12 :: c13 :: c14 :: c15 :: c16 :: c17 :: c18 :: c19 :: F)) : Dr P n ops Q M sp pre fr ([c0, c1, c2, c3, c4, c5, c6, c7, c8, c9, c10, c11, c12, c13, c14, c15, c16, c17, c18, c19] ++ F) := h
theorem Dr.app21 {c0 c1 c2 c3 c4 c5 c6 c7 c8 c9 c10 c11 c12 c13 c14 c15 c16 c17 c18 c19 c20 : Asr} {F : List Asr} (h : Dr P n ops Q M sp pre fr (c0 :: c1 :: c2 :: c3 :: c4 :: c5 :: c6 :: c7 :: c8 :: c9 :: c10 :: c11 :: c12 :: c13 :: c14 :: c15 :: c16 :: c17 :: c18 :: c19 :: c20 :: F)) : Dr P n ops Q M sp pre fr ([c0, c1, c2, c3, c4, c5, c6, c7, c8, c9, c10, c11, c12, c13, c14, c15, c16, c17, c18, c19, c20] ++ F) := h
theorem Dr.app22 {c0 c1 c2 c3 c4 c5 c6 c7 c8 c9 c10 c11 c12 c13 c14 c15 c16 c17 c18 c19 c20 c21 : Asr} {F : List Asr} (h : Dr P n ops Q M sp pre fr (c0 :: c1 :: c2 :: c3 :: c4 :: c5 :: c6 :: c7 :: c8 :: c9 :: c10 :: c11 :: c12 :: c13 :: c14 :: c15 :: c16 :: c17 :: c18 :: c19 :: c20 :: c21 :: F)) : Dr P n ops Q M sp pre fr ([c0, c1, c2, c3, c4, c5, c6, c7, c8, c9, c10, c11, c12, c13, c14, c15, c16, c17, c18, c19, c20, c21] ++ F) := h
theorem Dr.app23 {c0 c1 c2 c3 c4 c5 c6 c7 c8 c9 c10 c11 c12 c13 c14 c15 c16 c17 c18 c19 c20 c21 c22 : Asr} {F : List Asr} (h : Dr P n ops Q M sp pre fr (c0 :: c1 :: c2 :: c3 :: c4 :: c5 :: c6 :: c7 :: c8 :: c9 :: c10 :: c11 :: c12 :: c13 :: c14 :: c15 :: c16 :: c17 :: c18 :: c19 :: c20 :: c21 :: c22 :: F)) : Dr P n ops Q M sp pre fr ([c0, c1, c2, c3, c4, c5, c6, c7, c8, c9, c10, c11, c12, c13, c14, c15, c16, c17, c18, c19, c20, c21, c22] ++ F) := h
theorem Dr.app24 {c0 c1 c2 c3 c4 c5 c6 c7 c8 c9 c10 c11 c12 c13 c14 c15 c16 c17 c18 c19 c20 c21 c22 c23 : Asr} {F : List Asr} (h : Dr P n ops Q M sp pre fr (c0 :: c1 :: c2 :: c3 :: c4 :: c5 :: c6 :: c7 :: c8 :: c9 :: c10 :: c11 :: c12 :: c13 :: c14 :: c15 :: c16 :: c17 :: c18 :: c19 :: c20 :: c21 :: c22 :: c23 :: F)) : Dr P n ops Q M sp pre fr ([c0, c1, c2, c3, c4, c5, c6, c7, c8, c9, c10, c11, c12, c13, c14, c15, c16, c17, c18, c19, c20, c21, c22, c23] ++ F) := h
end
end Go.WG

set_option linter.unusedVariables false
set_option linter.unusedSimpArgs false
namespace Go.WG
open Go
section
variable {α β : Type} {P : Program} {n : Nat} {fr : Frm} {H G : List Asr} {o : Oper} {K : Act → World → Prop} {ops : Array Oper} {Q : Exit → Act → World → Prop} {M : List Nat} {sp : List Nat} {pre : List Pre}
theorem Ex.own_some {k : Kd α} {a : Option Addr} {c i : Nat} {xs : List α} {x : α} (hp : Pull (own k a c xs) H G) (hx : xs[i]? = some x) : Ex H (fun q : Nat × Nat => a = some ⟨q.1, q.2, none⟩) (fun _ => H) := by
  intro w hw
  obtain ⟨I, O, hI, hO, hd, hs⟩ := id hw
  obtain ⟨O1, O2, h1, h2, h12, hA, hH⟩ := hp.sat w I O hs
  rcases hA with ⟨rfl, rfl, rfl⟩ | ⟨b, r, ha, _⟩
  · simp at hx
  · exact ⟨(b, r), ha, hw⟩
theorem To.reH {H' : List Asr} (h : H = H') (k : To n K fr H') : To n K fr H := h ▸ k
theorem Dr.reH {H' : List Asr} (h : H = H') (k : Dr P n ops Q M sp pre fr H') : Dr P n ops Q M sp pre fr H := h ▸ k
theorem To.fo_int {k : IntKind} {a : Option Addr} {c i : Nat} {x : Int} {xs : List Int} (hp : Pull (own (kInt k) a c xs) H G) (hx : xs[i]? = some x)
    (h : ∀ b r, a = some ⟨b, r, none⟩ → To n K fr (pt b (r + i * 1) [.int k x] :: hole (kInt k) a c xs i :: G)) : To n K fr H := To.ex (Ex.focus op_int hp hx rfl) fun q e => h q.1 q.2.1 e
theorem Dr.fo_int {k : IntKind} {a : Option Addr} {c i : Nat} {x : Int} {xs : List Int} (hp : Pull (own (kInt k) a c xs) H G) (hx : xs[i]? = some x)
    (h : ∀ b r, a = some ⟨b, r, none⟩ → Dr P n ops Q M sp pre fr (pt b (r + i * 1) [.int k x] :: hole (kInt k) a c xs i :: G)) : Dr P n ops Q M sp pre fr H := Dr.exi (Ex.focus op_int hp hx rfl) fun q e => h q.1 q.2.1 e
theorem To.fo_bool {a : Option Addr} {c i : Nat} {x : Bool} {xs : List Bool} (hp : Pull (own kBool a c xs) H G) (hx : xs[i]? = some x)
    (h : ∀ b r, a = some ⟨b, r, none⟩ → To n K fr (pt b (r + i * 1) [.bool x] :: hole kBool a c xs i :: G)) : To n K fr H := To.ex (Ex.focus op_bool hp hx rfl) fun q e => h q.1 q.2.1 e
theorem Dr.fo_bool {a : Option Addr} {c i : Nat} {x : Bool} {xs : List Bool} (hp : Pull (own kBool a c xs) H G) (hx : xs[i]? = some x)
    (h : ∀ b r, a = some ⟨b, r, none⟩ → Dr P n ops Q M sp pre fr (pt b (r + i * 1) [.bool x] :: hole kBool a c xs i :: G)) : Dr P n ops Q M sp pre fr H := Dr.exi (Ex.focus op_bool hp hx rfl) fun q e => h q.1 q.2.1 e
theorem To.fo_str {a : Option Addr} {c i : Nat} {x : Str} {xs : List Str} (hp : Pull (own kStr a c xs) H G) (hx : xs[i]? = some x)
    (h : ∀ b r, a = some ⟨b, r, none⟩ → To n K fr (pt b (r + i * 1) [.string (S x)] :: hole kStr a c xs i :: G)) : To n K fr H := To.ex (Ex.focus op_str hp hx rfl) fun q e => h q.1 q.2.1 e
theorem Dr.fo_str {a : Option Addr} {c i : Nat} {x : Str} {xs : List Str} (hp : Pull (own kStr a c xs) H G) (hx : xs[i]? = some x)
    (h : ∀ b r, a = some ⟨b, r, none⟩ → Dr P n ops Q M sp pre fr (pt b (r + i * 1) [.string (S x)] :: hole kStr a c xs i :: G)) : Dr P n ops Q M sp pre fr H := Dr.exi (Ex.focus op_str hp hx rfl) fun q e => h q.1 q.2.1 e
theorem To.fo_sl {k : Kd α} {a : Option Addr} {c i : Nat} {x : List α} {xs : List (List α)} (hp : Pull (own (kSl k) a c xs) H G) (hx : xs[i]? = some x)
    (h : ∀ b r a' c', a = some ⟨b, r, none⟩ → To n K fr (imm k a' c' x :: pt b (r + i * 1) [.slice a' x.length c'] :: hole (kSl k) a c xs i :: G)) : To n K fr H := To.ex (Ex.focus op_sl hp hx rfl) fun q e => h q.1 q.2.1 q.2.2.1 q.2.2.2 e
theorem Dr.fo_sl {k : Kd α} {a : Option Addr} {c i : Nat} {x : List α} {xs : List (List α)} (hp : Pull (own (kSl k) a c xs) H G) (hx : xs[i]? = some x)
    (h : ∀ b r a' c', a = some ⟨b, r, none⟩ → Dr P n ops Q M sp pre fr (imm k a' c' x :: pt b (r + i * 1) [.slice a' x.length c'] :: hole (kSl k) a c xs i :: G)) : Dr P n ops Q M sp pre fr H := Dr.exi (Ex.focus op_sl hp hx rfl) fun q e => h q.1 q.2.1 q.2.2.1 q.2.2.2 e
end
end Go.WG

set_option linter.unusedVariables false
set_option linter.unusedSimpArgs false
namespace Go.WG
open Go
section
variable {α β : Type} {P : Program} {n : Nat} {fr : Frm} {H G : List Asr} {o : Oper} {K : Act → World → Prop} {ops : Array Oper} {Q : Exit → Act → World → Prop} {M : List Nat} {sp : List Nat} {pre : List Pre}
theorem Want.undefd {o oj : Oper} {j dj : Nat} {c : Bool} (h : o.guard = some (j, c)) (hj : ops[j]? = some oj) (hd : oj.dst = some dj) (hx : fget fr dj = some undef)
    (hdn : Nat.ble (dj + 1) n = true) : Want ops o n fr false := by
  have hdn := Nat.le_of_ble_eq_true hdn
  intro a ha
  have := ha.val dj _ hx
  have hs := ha.size
  have hlt : dj < a.tmps.size := by omega
  have hget : a.tmps[dj]? = some undef := by
    simp only [Array.getD, hlt, dif_pos] at this
    rw [Array.getElem?_eq_getElem hlt]; exact congrArg some this
  simp only [Region.wanted, h, yielded, hj, Option.bind_some, hd, hget]
  cases c <;> rfl
theorem rq_sl {t e : TypeId} {b : Option Addr} {l c c' : Nat} (d : Nat) (hu : P.underlying t = some (.slice e)) (w : World) : (Op.equalIn (d + 1) t (.slice b l c) (.slice none 0 c')).run P w = .ok b.isNone w := by
  unfold Op.equalIn; rw [Sem.run_bind, run_underlying hu]; cases b <;> rfl
theorem pe_sleql {ty t e : TypeId} {x y : Operand} {b : Option Addr} {l c c' : Nat} (hop : o.op = .binOp .eql t x y ty) (hx : ev fr x = some (.slice b l c)) (hy : ev fr y = some (.slice none 0 c')) (hu : P.underlying t = some (.slice e)) :
    PureEval P o n fr H (.bool b.isNone) := pe_eq hop hx hy rfl (by cases b <;> rfl) fun d w => rq_sl d hu w
theorem Ex.imm_null {k : Kd α} {a : Option Addr} {c : Nat} {xs : List α} (hp : Pull (imm k a c xs) H G) (ha : a.isNone = true) : Ex H (fun _ : Unit => xs = []) (fun _ => H) := by
  intro w hw
  refine ⟨(), ?_, hw⟩
  obtain ⟨I, O, hI, hO, hd, hs⟩ := hw
  obtain ⟨O1, O2, h1, h2, h12, hA, hH⟩ := hp.sat w I O hs
  cases xs with
  | nil => rfl
  | cons x xs =>
    obtain ⟨b, r, cs, e, _⟩ := hA.2 0 (Nat.succ_pos _)
    rw [e] at ha; cases ha
theorem Ex.own_null {k : Kd α} {a : Option Addr} {c : Nat} {xs : List α} (hp : Pull (own k a c xs) H G) (ha : a.isNone = true) : Ex H (fun _ : Unit => xs = []) (fun _ => H) := by
  intro w hw
  refine ⟨(), ?_, hw⟩
  obtain ⟨I, O, hI, hO, hd, hs⟩ := hw
  obtain ⟨O1, O2, h1, h2, h12, hA, hH⟩ := hp.sat w I O hs
  rcases hA with ⟨_, _, h⟩ | ⟨b, r, e, _⟩
  · exact h
  · rw [e] at ha; cases ha
end
end Go.WG

set_option linter.unusedVariables false
set_option linter.unusedSimpArgs false
namespace Go.WG
open Go
section
variable {α β : Type} {P : Program} {n : Nat} {fr : Frm} {H G : List Asr} {o : Oper} {K : Act → World → Prop} {ops : Array Oper} {Q : Exit → Act → World → Prop} {M : List Nat} {sp : List Nat} {pre : List Pre}
theorem append_full_run {T E : TypeId} {k : Kd α} {sv : Value} {a : Option Addr} {cap sz : Nat} {xs ys : List α} (he : Elt P T E sz) (hsz : k.sz = sz) (hz0 : ((P.info? E).bind (·.zero)).map (·.cells.size) = some sz)
    (hso : Src P k (.slice a xs.length cap) xs G) (hsrc : Src P k sv ys G) (hb : xs.length + ys.length ≤ BIG) (hcap : ¬ xs.length + ys.length ≤ cap) {w : World} (hw1 : Holds w G) :
    ∃ a' cap' w', (Builtin.append_ ⟨[T, T]⟩ T ⟨[.slice a xs.length cap, sv]⟩).run P w = .ok (.slice a' (xs ++ ys).length cap') w' ∧ Holds w' (own k a' cap' (xs ++ ys) :: G) := by
  subst hsz
  obtain ⟨I, O2, hI, hO2, hd2, hS⟩ := id hw1
  obtain ⟨cs, hR, hlen, hfirst⟩ := hsrc w I O2 hS
  obtain ⟨old, hRo, hleno, hfo⟩ := hso w I O2 hS
  obtain ⟨inf, hi⟩ : ∃ inf, P.info? E = some inf := by
    have := he.size
    cases h : P.info? E with
    | none => rw [h] at this; cases this
    | some i => exact ⟨i, rfl⟩
  have hsize : inf.size = k.sz := by have := he.size; rw [hi] at this; simpa using this
  have hbytes : inf.bytes ≤ 65536 := by have := he.bytes; rw [hi] at this; simpa using this
  obtain ⟨z, hz⟩ : ∃ z, inf.zero = some z := by
    have := he.zero; rw [hi] at this
    exact Option.isSome_iff_exists.1 this
  have hzl : z.cells.size = k.sz := by rw [hi] at hz0; simp only [Option.bind_some, hz, Option.map_some, Option.some.injEq] at hz0; exact hz0
  have hrs : ∀ w, (sizeOf E).run P w = .ok k.sz w := fun w => by simp [sizeOf, typeInfo, program, hi, Sem.run_bind, Sem.run, hsize]
  have hrt : ∀ w, (typeInfo E).run P w = .ok inf w := fun w => by simp [typeInfo, program, hi, Sem.run_bind, Sem.run]
  have hrz : ∀ w, (zeroValue E).run P w = .ok z w := fun w => by simp [zeroValue, typeInfo, program, hi, Sem.run_bind, Sem.run, hz]
  unfold BIG at hb
  have hnx := next_le (Nat.lt_of_not_le hcap)
  have hbig : ¬ (Builtin.nextslicecap (xs.length + ys.length) cap * inf.bytes > 2 ^ 48) := by
    have : Builtin.nextslicecap (xs.length + ys.length) cap * inf.bytes ≤ (2 * 1073741824 + 192) * 65536 := Nat.mul_le_mul (by omega) hbytes
    omega
  have hmax : ¬ ((((xs.length + ys.length : Nat)) : Int) > IntKind.i64.max ∧ (False ∨ inf.bytes = 0)) := by
    rw [IntKind.max_i64]; omega
  let newCap := (Question.appendCap (xs.length + ys.length) cap E).cut (w.tape w.drawn (Question.appendCap (xs.length + ys.length) cap E))
  have hnc : xs.length + ys.length ≤ newCap := Nat.le_add_right _ _
  refine ⟨some ⟨w.heap.size, 0, none⟩, newCap, { w with heap := w.heap.push (.cells ⟨old ++ cs ++ (Builtin.zeroCells z.cells (newCap - (xs.length + ys.length))).toList⟩ E), drawn := w.drawn + 1 }, ?_, ?_⟩
  · unfold Builtin.append_
    simp only [List.getElem?_toArray, List.getElem?_cons_zero, List.getElem?_cons_succ, Sem.run_bind, run_underlying he.slice, Result.andThen_ok, hrs, Sem.run_pure, Bool.false_eq_true, if_false, hlen]
    rw [if_neg hcap]
    simp only [Sem.run_bind, hrt, Result.andThen_ok]
    rw [if_neg hmax]
    simp only [Sem.run_bind, hrt, Result.andThen_ok]
    rw [if_neg hbig]
    have hch : (choose (Question.appendCap (xs.length + ys.length) cap E)).run P w = .ok newCap { w with drawn := w.drawn + 1 } := rfl
    have hask : ∀ m w, (askRoom m).run P w = .ok () w := fun m w => by unfold askRoom; split <;> rfl
    simp only [Sem.run_bind, hch, hrt, Result.andThen_ok, hask, hfo, hfirst, hrz]
    rw [List.length_append]
    simp only [newRow, newObj, Sem.run_bind, Sem.run, Result.andThen_ok, Sem.run_pure]
    have hf2 : Sem.run P (if (!false) = true then Builtin.firstCells k.sz ys.length sv else if ys.length * k.sz = 0 then pure #[] else do
        let z ← zeroValue E
        pure (Builtin.zeroCells z.cells ys.length)) { w with drawn := w.drawn + 1 } = .ok ⟨cs⟩ { w with drawn := w.drawn + 1 } := by
      rw [if_pos (by rfl)]; exact hfirst _
    rw [hf2, Result.andThen_ok]
    congr 4
    apply Array.ext'
    simp
  · have hrl : (old ++ cs).length + (Builtin.zeroCells z.cells (newCap - (xs.length + ys.length))).toList.length = newCap * k.sz := by
      have hz1 : (Builtin.zeroCells z.cells (newCap - (xs.length + ys.length))).toList.length = (newCap - (xs.length + ys.length)) * k.sz := by rw [← hzl]; exact zeroCells_len
      rw [hz1, List.length_append, hRo.len, hR.len, ← Nat.add_mul, ← Nat.add_mul]
      congr 1; omega
    have := Holds.fresh (k := k) (xs := xs ++ ys) (t := E) (m := w.drawn + 1) hI hO2 hd2 hS (hRo.append hR) hrl (by rw [List.length_append]; exact hnc)
    simpa using this
theorem st_append_full {T E : TypeId} {k : Kd α} {x y : Operand} {sv : Value} {a : Option Addr} {sz : Nat} {xs ys : List α} (hop : o.op = .call { callee := .builtin .append, args := ⟨[x, y]⟩, argTypes := ⟨[T, T]⟩ })
    (hx : ev fr x = some (.slice a xs.length xs.length)) (hy : ev fr y = some sv) (he : Elt P T E sz) (hsz : k.sz = sz) (hz0 : ((P.info? E).bind (·.zero)).map (·.cells.size) = some sz)
    (hp : Pull (imm k a xs.length xs) H G) (hsrc : Src P k sv ys H) (hb : xs.length + ys.length ≤ BIG) (hl : 0 < ys.length) :
    Step P o n fr H (fun v H' => ∃ a' cap', v = .slice a' (xs ++ ys).length cap' ∧ H' = own k a' cap' (xs ++ ys) :: H) := by
  intro act w hk hw
  have hm : (Array.mk [x, y]).map act.eval = #[Value.slice a xs.length xs.length, sv] := args_array hk (by simp [hx, hy])
  obtain ⟨a', cap', w', hrun, hw'⟩ := append_full_run he hsz hz0 (Src.imm hp) hsrc hb (by omega) hw
  have hrun' : (Builtin.append_ #[T, T] o.type #[Value.slice a xs.length xs.length, sv]).run P w = .ok (.slice a' (xs ++ ys).length cap') w' := hrun
  simp only [execOp, hop, resolve, hm, Sem.run_bind, Sem.run_pure, Result.andThen_ok, invoke, builtin]
  rw [show (Array.mk [T, T]) = #[T, T] from rfl, hrun']
  exact ⟨_, ⟨a', cap', rfl, rfl⟩, hw'⟩
theorem Ex.imm_full {k : Kd α} {a : Option Addr} {c : Nat} {xs : List α} (hp : Pull (imm k a c xs) H G) : Ex H (fun _ : Unit => xs.length ≤ c) (fun _ => imm k a xs.length xs :: H) := by
  intro w hw
  obtain ⟨I, O, hI, hO, hd, hs⟩ := id hw
  obtain ⟨O1, O2, h1, h2, h12, hA, hH⟩ := hp.sat w I O hs
  exact ⟨(), hA.1, I, O, hI, hO, hd, fun _ _ => False, O, fun _ _ x => x.elim, fun _ _ x => x, fun _ _ x => x.elim, ⟨Nat.le_refl _, hA.2⟩, hs⟩
theorem pe_cutfull {t e : TypeId} {x h m : Operand} {k k' : IntKind} {agg : Bool} {sz : Nat} {a : Option Addr} {l c : Nat} (hop : o.op = .slice t x none (some h) (some m)) (hx : ev fr x = some (.slice a l c))
    (hh : ev fr h = some (.int k (l : Int))) (hm : ev fr m = some (.int k' (l : Int))) (hu : P.underlying t = some (.slice e)) (ht : Ty P e agg sz) (hlc : l ≤ c) (ha : ∀ b, a = some b → b.add 0 = b) :
    PureEval P o n fr H (.slice a l l) := by
  intro act w hk hw
  have b1 := bound_run (P := P) (k := k') (v := (l : Int)) (y := c) (code := .slice3Acap) ⟨by omega, by omega⟩ w
  have b2 := bound_run (P := P) (k := k) (v := (l : Int)) (y := l) (code := .slice3B) ⟨by omega, by omega⟩ w
  simp only [Int.toNat_natCast] at b1 b2
  simp only [execOp, hop, hk.eval hx, Instr.sliceAt, Sem.run_bind, run_underlying hu, Result.andThen_ok, Instr.slice, Option.map_some, Option.map_none, Instr.sliceBounds, hk.eval hh, hk.eval hm, if_true, b1, b2, ht.sizeOf, Sem.run_pure, Nat.zero_mul, Nat.sub_zero]
  split
  · rfl
  · cases a with
    | none => rfl
    | some b => simp only [Option.map_some, ha b rfl]
theorem Ex.imm_add {k : Kd α} {a : Option Addr} {c : Nat} {xs : List α} (hp : Pull (imm k a c xs) H G) (hl : 0 < xs.length) : Ex H (fun _ : Unit => ∀ b, a = some b → b.add 0 = b) (fun _ => H) := by
  intro w hw
  refine ⟨(), ?_, hw⟩
  obtain ⟨I, O, hI, hO, hd, hs⟩ := hw
  obtain ⟨O1, O2, h1, h2, h12, hA, hH⟩ := hp.sat w I O hs
  obtain ⟨b, r, cs, rfl, _⟩ := hA.2 0 hl
  intro b' e; cases e; rfl
end
end Go.WG

set_option linter.unusedVariables false
set_option linter.unusedSimpArgs false
namespace Go.WG
open Go
section
variable {α β : Type} {P : Program} {n : Nat} {fr : Frm} {H G : List Asr} {o : Oper} {K : Act → World → Prop} {ops : Array Oper} {Q : Exit → Act → World → Prop} {M : List Nat} {sp : List Nat} {pre : List Pre}

theorem Dr.bool (t : Bool) (ht : t = true → Dr P n ops Q M sp pre fr H) (hf : t = false → Dr P n ops Q M sp pre fr H) : Dr P n ops Q M sp pre fr H := by
  cases t with
  | true => exact ht rfl
  | false => exact hf rfl

/-- several assertions, of something, as one -/
def sep (L : β → List Asr) : Asr where
  holds w I O := ∃ y, Sat w I (L y) O
  mono := by
    rintro w w' I I' O O' ⟨y, h⟩ hI hO hk
    exact ⟨y, Sat.mono hI h hO hk⟩

theorem Sat.app {w : World} {I : Fp} : ∀ {L H : List Asr} {O1 O2 O : Fp}, Sat w I L O1 → Sat w I H O2 → (∀ b o, O1 b o → O b o) → (∀ b o, O2 b o → O b o) → (∀ b o, O1 b o → O2 b o → False) → Sat w I (L ++ H) O
  | [], H, O1, O2, O, _, h2, _, g2, _ => Sat.mono (fun _ _ x => x) h2 g2 (Keeps.refl _ _)
  | A :: L, H, O1, O2, O, h1, h2, g1, g2, g12 => by
    obtain ⟨P1, P2, k1, k2, k12, hA, hL⟩ := h1
    refine ⟨P1, fun b o => P2 b o ∨ O2 b o, fun _ _ x => g1 _ _ (k1 _ _ x), fun _ _ x => x.elim (fun x => g1 _ _ (k2 _ _ x)) (g2 _ _), fun _ _ x y => y.elim (k12 _ _ x) (g12 _ _ (k1 _ _ x)), hA, ?_⟩
    exact Sat.app hL h2 (fun _ _ x => .inl x) (fun _ _ x => .inr x) fun _ _ x y => g12 _ _ (k2 _ _ x) y
theorem Sat.split {w : World} {I : Fp} : ∀ {L H : List Asr} {O : Fp}, Sat w I (L ++ H) O → ∃ O1 O2 : Fp, (∀ b o, O1 b o → O b o) ∧ (∀ b o, O2 b o → O b o) ∧ (∀ b o, O1 b o → O2 b o → False) ∧ Sat w I L O1 ∧ Sat w I H O2
  | [], H, O, h => ⟨fun _ _ => False, O, fun _ _ x => x.elim, fun _ _ x => x, fun _ _ x => x.elim, trivial, h⟩
  | A :: L, H, O, h => by
    obtain ⟨P1, P2, k1, k2, k12, hA, hL⟩ := h
    obtain ⟨O1, O2, g1, g2, g12, h1, h2⟩ := Sat.split hL
    exact ⟨fun b o => P1 b o ∨ O1 b o, O2, fun _ _ x => x.elim (k1 _ _) (fun x => k2 _ _ (g1 _ _ x)), fun _ _ x => k2 _ _ (g2 _ _ x), fun _ _ x y => x.elim (fun x => k12 _ _ x (g2 _ _ y)) (fun x => g12 _ _ x y),
      ⟨P1, O1, fun _ _ x => .inl x, fun _ _ x => .inr x, fun _ _ x y => k12 _ _ x (g1 _ _ y), hA, h1⟩, h2⟩

theorem Ex.unsep {L : β → List Asr} (hp : Pull (sep L) H G) : Ex H (fun _ : β => True) (fun y => L y ++ G) := by
  intro w hw
  obtain ⟨I, O, hI, hO, hd, hs⟩ := hw
  obtain ⟨O1, O2, h1, h2, h12, ⟨y, hy⟩, hH⟩ := hp.sat w I O hs
  exact ⟨y, trivial, I, O, hI, hO, hd, Sat.app hy hH h1 h2 h12⟩
theorem Imp.sep {L : β → List Asr} (y : β) : Imp (L y ++ H) (sep L :: H) := Imp.of_sat fun w I O h => by
  obtain ⟨O1, O2, h1, h2, h12, ha, hb⟩ := Sat.split h
  exact ⟨O1, O2, h1, h2, h12, ⟨y, ha⟩, hb⟩

/-- a fact, told as an assertion -/
def fact (p : Prop) : Asr where
  holds _ _ _ := p
  mono h _ _ _ := h
instance {p : Prop} : Pers (fact p) := ⟨fun _ _ _ h => h⟩
theorem Ex.fact {p : Prop} (hp : Pull (fact p) H G) : Ex H (fun _ : Unit => p) (fun _ => G) := by
  intro w hw
  obtain ⟨I, O, hI, hO, hd, hs⟩ := hw
  obtain ⟨O1, O2, h1, h2, h12, hA, hH⟩ := hp.sat w I O hs
  exact ⟨(), hA, I, O, hI, hO, hd, Sat.mono (fun _ _ x => x) hH h2 (Keeps.refl _ _)⟩
theorem Imp.fact {p : Prop} (h : p) : Imp H (fact p :: H) := Imp.of_sat fun w I O hs => ⟨fun _ _ => False, O, fun _ _ x => x.elim, fun _ _ x => x, fun _ _ x => x.elim, h, hs⟩

/-- a pointer to an object of one's own, or nil -/
def pm (ob : Nat → Nat → α → Asr) (p : Option Addr) (x : Option α) : Asr where
  holds w I O := (p = none ∧ x = none) ∨ ∃ b r y, p = some ⟨b, r, none⟩ ∧ x = some y ∧ (ob b r y).holds w I O
  mono := by
    rintro w w' I I' O O' h hI hO hk
    rcases h with h | ⟨b, r, y, hp, hx, h⟩
    · exact .inl h
    · exact .inr ⟨b, r, y, hp, hx, (ob b r y).mono h hI hO hk⟩
theorem pm_nil {ob : Nat → Nat → α → Asr} : Imp H (pm ob none none :: H) := Imp.of_sat fun w I O h => ⟨fun _ _ => False, O, fun _ _ x => x.elim, fun _ _ x => x, fun _ _ x => x.elim, .inl ⟨rfl, rfl⟩, h⟩
theorem pm_some {ob : Nat → Nat → α → Asr} {b r : Nat} {y : α} : Imp (ob b r y :: H) (pm ob (some ⟨b, r, none⟩) (some y) :: H) := Imp.of_sat fun w I O h => by
  obtain ⟨O1, O2, h1, h2, h12, hA, hH⟩ := h
  exact ⟨O1, O2, h1, h2, h12, .inr ⟨b, r, y, rfl, rfl, hA⟩, hH⟩
theorem Ex.pm_null {ob : Nat → Nat → α → Asr} {p : Option Addr} {x : Option α} (hp : Pull (pm ob p x) H G) : Ex H (fun _ : Unit => p.isNone = x.isNone) (fun _ => H) := by
  intro w hw
  refine ⟨(), ?_, hw⟩
  obtain ⟨I, O, hI, hO, hd, hs⟩ := hw
  obtain ⟨O1, O2, h1, h2, h12, hA, hH⟩ := hp.sat w I O hs
  rcases hA with ⟨rfl, rfl⟩ | ⟨b, r, y, rfl, rfl, _⟩ <;> rfl
theorem Ex.pm_open {ob : Nat → Nat → α → Asr} {p : Option Addr} {x : Option α} {y : α} (hp : Pull (pm ob p x) H G) (hx : x = some y) : Ex H (fun q : Nat × Nat => p = some ⟨q.1, q.2, none⟩) (fun q => ob q.1 q.2 y :: G) := by
  subst hx
  intro w hw
  obtain ⟨I, O, hI, hO, hd, hs⟩ := hw
  obtain ⟨O1, O2, h1, h2, h12, hA, hH⟩ := hp.sat w I O hs
  rcases hA with ⟨_, hx⟩ | ⟨b, r, y', e, hx, hr⟩
  · cases hx
  · cases hx
    exact ⟨(b, r), e, I, O, hI, hO, hd, O1, O2, h1, h2, h12, hr, hH⟩
end
end Go.WG

set_option linter.unusedVariables false
set_option linter.unusedSimpArgs false
namespace Go.WG
open Go
section
variable {α β : Type} {P : Program} {n : Nat} {fr : Frm} {H G : List Asr} {o : Oper} {K : Act → World → Prop} {ops : Array Oper} {Q : Exit → Act → World → Prop} {M : List Nat} {sp : List Nat} {pre : List Pre}

/-- a call of what has no body, that changes nothing -/
theorem pe_extern {f : FuncId} {xs : List Operand} {us : List Value} {ts : Array TypeId} {v : Value} (h : ∀ w, (callFunc f ⟨us⟩).run P w = .ok (.value v) w) (hop : o.op = .call { callee := .value (.func f), args := ⟨xs⟩, argTypes := ts })
    (hx : xs.map (ev fr) = us.map some) : PureEval P o n fr H v := by
  intro a w hk hw
  have hm := args_array hk hx
  simp only [execOp, hop, resolve, hm, Sem.run_bind, Sem.run_pure, Result.andThen_ok, Act.eval, Deferred.ofValue, invoke]
  have he : (#[] ++ Array.mk us ++ #[] : Array Value) = Array.mk us := by simp
  rw [he, h]

/-- a choice that isn't told apart -/
theorem pe_pickB {c x y : Operand} {t p q : Bool} (hop : o.op = .pick c x y) (hc : ev fr c = some (.bool t)) (hx : ev fr x = some (.bool p)) (hy : ev fr y = some (.bool q)) : PureEval P o n fr H (.bool (cond t p q)) := by
  cases t
  · exact pe_pick hop hc hy
  · exact pe_pick hop hc hx
theorem pe_pickI {c x y : Operand} {t : Bool} {k : IntKind} {p q : Int} (hop : o.op = .pick c x y) (hc : ev fr c = some (.bool t)) (hx : ev fr x = some (.int k p)) (hy : ev fr y = some (.int k q)) : PureEval P o n fr H (.int k (cond t p q)) := by
  cases t
  · exact pe_pick hop hc hy
  · exact pe_pick hop hc hx
theorem pe_pickT {c x y : Operand} {t : Bool} {p q : Str} (hop : o.op = .pick c x y) (hc : ev fr c = some (.bool t)) (hx : ev fr x = some (.string (S p))) (hy : ev fr y = some (.string (S q))) : PureEval P o n fr H (.string (S (cond t p q))) := by
  cases t
  · exact pe_pick hop hc hy
  · exact pe_pick hop hc hx
theorem pe_pickS {c x y : Operand} {t : Bool} {v : Value} (hop : o.op = .pick c x y) (hc : ev fr c = some (.bool t)) (hx : ev fr x = some v) (hy : ev fr y = some v) : PureEval P o n fr H v := by
  cases t
  · exact pe_pick hop hc hy
  · exact pe_pick hop hc hx

/-! bytes -/
def kU8 : Kd UInt8 where
  sz := 1
  rep _ _ cs x := cs = [.int .u8 x.toNat]
  len h := by subst h; rfl
  ones h := by subst h; rfl
  mono h _ _ := h
def u8 (e : Int) : UInt8 := UInt8.ofNat e.toNat
theorem u8_toNat {e : Int} (h : 0 ≤ e ∧ e < 256) : ((u8 e).toNat : Int) = e := by
  unfold u8
  rw [UInt8.toNat_ofNat']
  omega
theorem op_u8 {x : UInt8} : Opens kU8 x (fun _ : Unit => [.int .u8 x.toNat]) (fun _ => []) := fun _ _ _ h => ⟨(), h, trivial⟩
theorem mk_u8 {e : Int} (h : 0 ≤ e ∧ e < 256) : Imp H (rp kU8 [.int .u8 e] (u8 e) :: H) := Imp.of_sat fun w I O hs => ⟨fun _ _ => False, O, fun _ _ x => x.elim, fun _ _ x => x, fun _ _ x => x.elim, by show [Value.int .u8 e] = [.int .u8 (u8 e).toNat]; rw [u8_toNat h], hs⟩
theorem mk_u8' {x : UInt8} : Imp H (rp kU8 [.int .u8 x.toNat] x :: H) := Imp.of_sat fun w I O hs => ⟨fun _ _ => False, O, fun _ _ x => x.elim, fun _ _ x => x, fun _ _ x => x.elim, rfl, hs⟩
theorem To.el_u8 {a : Option Addr} {c i : Nat} {x : UInt8} {xs : List UInt8} (hp : Pull (imm kU8 a c xs) H G) (hx : xs[i]? = some x) (k : ∀ b r, a = some ⟨b, r, none⟩ → To n K fr (ro b (r + i * 1) [.int .u8 x.toNat] :: H)) : To n K fr H :=
  To.ex (Ex.elem op_u8 hp hx rfl) fun q e => k q.1 q.2.1 e
theorem Dr.el_u8 {a : Option Addr} {c i : Nat} {x : UInt8} {xs : List UInt8} (hp : Pull (imm kU8 a c xs) H G) (hx : xs[i]? = some x) (k : ∀ b r, a = some ⟨b, r, none⟩ → Dr P n ops Q M sp pre fr (ro b (r + i * 1) [.int .u8 x.toNat] :: H)) : Dr P n ops Q M sp pre fr H :=
  Dr.exi (Ex.elem op_u8 hp hx rfl) fun q e => k q.1 q.2.1 e
theorem To.fo_u8 {a : Option Addr} {c i : Nat} {x : UInt8} {xs : List UInt8} (hp : Pull (own kU8 a c xs) H G) (hx : xs[i]? = some x)
    (h : ∀ b r, a = some ⟨b, r, none⟩ → To n K fr (pt b (r + i * 1) [.int .u8 x.toNat] :: hole kU8 a c xs i :: G)) : To n K fr H := To.ex (Ex.focus op_u8 hp hx rfl) fun q e => h q.1 q.2.1 e
theorem Dr.fo_u8 {a : Option Addr} {c i : Nat} {x : UInt8} {xs : List UInt8} (hp : Pull (own kU8 a c xs) H G) (hx : xs[i]? = some x)
    (h : ∀ b r, a = some ⟨b, r, none⟩ → Dr P n ops Q M sp pre fr (pt b (r + i * 1) [.int .u8 x.toNat] :: hole kU8 a c xs i :: G)) : Dr P n ops Q M sp pre fr H := Dr.exi (Ex.focus op_u8 hp hx rfl) fun q e => h q.1 q.2.1 e
theorem reps_bytes {w : World} {I : Fp} : ∀ (l : Str), Reps kU8 w I (l.map fun b => .int .u8 b.toNat) l
  | [] => rfl
  | b :: l => ⟨[.int .u8 b.toNat], _, rfl, rfl, reps_bytes l⟩
theorem Reps.bytes_eq {w : World} {I : Fp} : ∀ {l : Str} {cs : List Value}, Reps kU8 w I cs l → cs = l.map fun b => .int .u8 b.toNat
  | [], cs, h => h
  | b :: l, cs, h => by
    obtain ⟨c1, c2, rfl, h1, h2⟩ := h
    have h1 : c1 = [.int .u8 b.toNat] := h1
    rw [h1, Reps.bytes_eq h2]; rfl
theorem Src.str {s : Str} : Src P kU8 (.string (S s)) s H := by
  intro w I O hs
  refine ⟨_, reps_bytes s, fun _ => rfl, fun d => ?_⟩
  have e : (S s).extract 0 s.length = S s := by
    apply ByteArray.ext
    rw [ByteArray.data_extract]
    apply Array.ext'
    show ((s.toArray).extract 0 s.length).toList = s
    simp
  show Sem.run P (pure (((S s).extract 0 s.length).data.map fun b => Value.int .u8 b.toNat)) _ = _
  rw [e, Sem.run_pure]
  congr 1
  apply Array.ext'
  simp [S]

theorem append_str_run {T T2 E : TypeId} {k : Kd α} {sv : Value} {a : Option Addr} {cap sz : Nat} {xs ys : List α} (he : Elt P T E sz) (hsz : k.sz = sz) (hz0 : ((P.info? E).bind (·.zero)).map (·.cells.size) = some sz)
    (hsrc : Src P k sv ys G) (hb : xs.length + ys.length ≤ BIG) (hu2 : P.underlying T2 = some .string) {w : World} (hw1 : Holds w (own k a cap xs :: G)) :
    ∃ a' cap' w', (Builtin.append_ ⟨[T, T2]⟩ T ⟨[.slice a xs.length cap, sv]⟩).run P w = .ok (.slice a' (xs ++ ys).length cap') w' ∧ Holds w' (own k a' cap' (xs ++ ys) :: G) := by
  subst hsz
  obtain ⟨I, O1, O2, hI, hO1, hO2, hd1, hd2, hd12, hA, hS⟩ := hw1.upd
  obtain ⟨cs, hR, hlen, hfirst⟩ := hsrc w I O2 hS
  obtain ⟨inf, hi⟩ : ∃ inf, P.info? E = some inf := by
    have := he.size
    cases h : P.info? E with
    | none => rw [h] at this; cases this
    | some i => exact ⟨i, rfl⟩
  have hsize : inf.size = k.sz := by have := he.size; rw [hi] at this; simpa using this
  have hbytes : inf.bytes ≤ 65536 := by have := he.bytes; rw [hi] at this; simpa using this
  obtain ⟨z, hz⟩ : ∃ z, inf.zero = some z := by
    have := he.zero; rw [hi] at this
    exact Option.isSome_iff_exists.1 this
  have hzl : z.cells.size = k.sz := by rw [hi] at hz0; simp only [Option.bind_some, hz, Option.map_some, Option.some.injEq] at hz0; exact hz0
  have hrs : ∀ w, (sizeOf E).run P w = .ok k.sz w := fun w => by simp [sizeOf, typeInfo, program, hi, Sem.run_bind, Sem.run, hsize]
  have hrt : ∀ w, (typeInfo E).run P w = .ok inf w := fun w => by simp [typeInfo, program, hi, Sem.run_bind, Sem.run]
  have hrz : ∀ w, (zeroValue E).run P w = .ok z w := fun w => by simp [zeroValue, typeInfo, program, hi, Sem.run_bind, Sem.run, hz]
  have hnt : ∀ w, (do pure ((← underlying T) matches .int _) : Sem Bool).run P w = .ok false w := fun w => by
    rw [Sem.run_bind, run_underlying he.slice]; rfl
  unfold BIG at hb
  by_cases hcap : xs.length + ys.length ≤ cap
  · -- in place
    cases a with
    | none =>
      rcases hA with ⟨_, rfl, rfl⟩ | ⟨b, r, ha, _⟩
      · have hy : ys = [] := by simpa using hcap
        subst hy
        refine ⟨none, 0, w, ?_, hw1⟩
        unfold Builtin.append_
        simp only [List.getElem?_toArray, List.getElem?_cons_zero, List.getElem?_cons_succ, Sem.run_bind, run_underlying he.slice, run_underlying hu2, Result.andThen_ok, hrs, Sem.run_pure, Bool.false_eq_true, if_false, hlen]
        simp only [List.length_nil, Nat.add_zero, Nat.le_refl, if_true, Sem.run_bind, Bool.not_false]
        rw [show Sem.run P (Builtin.firstCells k.sz 0 sv) w = _ from hfirst w.drawn]
        rfl
      · cases ha
    | some a =>
      rcases hA with ⟨h, _⟩ | ⟨b, r, ha, hlc, hc, hx⟩
      · cases h
      · cases ha
        obtain ⟨w', hrun, hw'⟩ := Holds.inplace P (xs := xs) hI hO1 hO2 hd1 hd2 hd12 (.inr ⟨b, r, rfl, hlc, hc, hx⟩) hS hR hcap
        refine ⟨some ⟨b, r, none⟩, cap, w', ?_, hw'⟩
        unfold Builtin.append_
        simp only [List.getElem?_toArray, List.getElem?_cons_zero, List.getElem?_cons_succ, Sem.run_bind, run_underlying he.slice, run_underlying hu2, Result.andThen_ok, hrs, Sem.run_pure, Bool.false_eq_true, if_false, hlen]
        simp only [hcap, if_true, Sem.run_bind, Bool.not_false, show Sem.run P (Builtin.firstCells k.sz ys.length sv) w = _ from hfirst w.drawn, Result.andThen_ok, Addr.add_lit, hrun, Sem.run_pure, List.length_append]
  · have hq : ((Question.appendCap (xs.length + ys.length) cap E).forced) = false := rfl
    obtain ⟨old, hRo, hfo⟩ := firstCells_own (P := P) hA
    have hnx := next_le (Nat.lt_of_not_le hcap)
    have hbig : ¬ (Builtin.nextslicecap (xs.length + ys.length) cap * inf.bytes > 2 ^ 48) := by
      have : Builtin.nextslicecap (xs.length + ys.length) cap * inf.bytes ≤ (2 * 1073741824 + 192) * 65536 := Nat.mul_le_mul (by omega) hbytes
      omega
    have hmax : ¬ ((((xs.length + ys.length : Nat)) : Int) > IntKind.i64.max ∧ (False ∨ inf.bytes = 0)) := by
      rw [IntKind.max_i64]; omega
    let newCap := (Question.appendCap (xs.length + ys.length) cap E).cut (w.tape w.drawn (Question.appendCap (xs.length + ys.length) cap E))
    have hnc : xs.length + ys.length ≤ newCap := Nat.le_add_right _ _
    refine ⟨some ⟨w.heap.size, 0, none⟩, newCap, { w with heap := w.heap.push (.cells ⟨old ++ cs ++ (Builtin.zeroCells z.cells (newCap - (xs.length + ys.length))).toList⟩ E), drawn := w.drawn + 1 }, ?_, ?_⟩
    · unfold Builtin.append_
      simp only [List.getElem?_toArray, List.getElem?_cons_zero, List.getElem?_cons_succ, Sem.run_bind, run_underlying he.slice, run_underlying hu2, Result.andThen_ok, hrs, Sem.run_pure, Bool.false_eq_true, if_false, hlen]
      rw [if_neg hcap]
      simp only [Sem.run_bind, hrt, Result.andThen_ok]
      rw [if_neg hmax]
      simp only [Sem.run_bind, hrt, Result.andThen_ok]
      rw [if_neg hbig]
      have hch : (choose (Question.appendCap (xs.length + ys.length) cap E)).run P w = .ok newCap { w with drawn := w.drawn + 1 } := rfl
      have hask : ∀ m w, (askRoom m).run P w = .ok () w := fun m w => by unfold askRoom; split <;> rfl
      simp only [Sem.run_bind, hch, hrt, Result.andThen_ok, hask, hfo, hfirst, hrz]
      rw [List.length_append]
      simp only [newRow, newObj, Sem.run_bind, Sem.run, Result.andThen_ok, Sem.run_pure]
      have hf2 : Sem.run P (if (!false) = true then Builtin.firstCells k.sz ys.length sv else if ys.length * k.sz = 0 then pure #[] else do
          let z ← zeroValue E
          pure (Builtin.zeroCells z.cells ys.length)) { w with drawn := w.drawn + 1 } = .ok ⟨cs⟩ { w with drawn := w.drawn + 1 } := by
        rw [if_pos (by rfl)]; exact hfirst _
      rw [hf2, Result.andThen_ok]
      congr 4
      apply Array.ext'
      simp
    · have hI' := hI
      have hrl : (old ++ cs).length + (Builtin.zeroCells z.cells (newCap - (xs.length + ys.length))).toList.length = newCap * k.sz := by
        have hz1 : (Builtin.zeroCells z.cells (newCap - (xs.length + ys.length))).toList.length = (newCap - (xs.length + ys.length)) * k.sz := by rw [← hzl]; exact zeroCells_len
        rw [hz1, List.length_append, hRo.len, hR.len, ← Nat.add_mul, ← Nat.add_mul]
        congr 1; omega
      have := Holds.fresh (k := k) (xs := xs ++ ys) (t := E) (m := w.drawn + 1) hI hO2 hd2 hS (hRo.append hR) hrl (by rw [List.length_append]; exact hnc)
      simpa using this

theorem st_append_str {T T2 E : TypeId} {k : Kd α} {x y : Operand} {sv : Value} {a : Option Addr} {cap sz : Nat} {xs ys : List α} (hop : o.op = .call { callee := .builtin .append, args := ⟨[x, y]⟩, argTypes := ⟨[T, T2]⟩ })
    (hx : ev fr x = some (.slice a xs.length cap)) (hy : ev fr y = some sv) (he : Elt P T E sz) (hsz : k.sz = sz) (hz0 : ((P.info? E).bind (·.zero)).map (·.cells.size) = some sz)
    (hp : Pull (own k a cap xs) H G) (hsrc : Src P k sv ys G) (hb : xs.length + ys.length ≤ BIG) (hu2 : P.underlying T2 = some .string) :
    Step P o n fr H (fun v H' => ∃ a' cap', v = .slice a' (xs ++ ys).length cap' ∧ H' = own k a' cap' (xs ++ ys) :: G) := by
  intro act w hk hw
  have hm : (Array.mk [x, y]).map act.eval = #[Value.slice a xs.length cap, sv] := args_array hk (by simp [hx, hy])
  obtain ⟨a', cap', w', hrun, hw'⟩ := append_str_run (a := a) (cap := cap) he hsz hz0 hsrc hb hu2 (hp.imp w hw)
  have hrun' : (Builtin.append_ #[T, T2] o.type #[Value.slice a xs.length cap, sv]).run P w = .ok (.slice a' (xs ++ ys).length cap') w' := hrun
  simp only [execOp, hop, resolve, hm, Sem.run_bind, Sem.run_pure, Result.andThen_ok, invoke, builtin]
  rw [show (Array.mk [T, T2]) = #[T, T2] from rfl, hrun']
  exact ⟨_, ⟨a', cap', rfl, rfl⟩, hw'⟩

/-! room made -/
theorem range_rows (zs : List Value) : ∀ m : Nat, (List.range (m * zs.length)).map (fun i => zs[i % zs.length]!) = (List.replicate m zs).flatten
  | 0 => by simp
  | m + 1 => by
    rw [Nat.add_mul, Nat.one_mul, List.range_add, List.map_append, range_rows zs m, List.replicate_succ', List.flatten_append]
    congr 1
    rw [List.map_map, List.flatten_singleton]
    apply List.ext_getElem
    · simp
    · intro i h1 h2
      have hi : i < zs.length := by simpa using h1
      simp [Nat.mod_eq_of_lt hi, hi]
theorem reps_rep {k : Kd α} {w : World} {I : Fp} {zs : List Value} {z : α} (h : k.rep w I zs z) : ∀ m, Reps k w I (List.replicate m zs).flatten (List.replicate m z)
  | 0 => rfl
  | m + 1 => ⟨zs, (List.replicate m zs).flatten, rfl, h, reps_rep h m⟩
theorem st_make {T E : TypeId} {k : Kd α} {x y : Operand} {kx ky : IntKind} {l c : Int} {sz : Nat} {zs : List Value} {z : α} (hop : o.op = .makeSlice T x y) (hx : ev fr x = some (.int kx l)) (hy : ev fr y = some (.int ky c))
    (he : Elt P T E sz) (hsz : k.sz = sz) (hz : Zero P E zs) (hzl : zs.length = sz) (hs0 : 0 < sz) (hrep : ∀ w I, k.rep w I zs z) (hb : 0 ≤ l ∧ l ≤ c ∧ c ≤ 1073741824) :
    Step P o n fr H (fun v H' => ∃ b, v = .slice (some ⟨b, 0, none⟩) (List.replicate l.toNat z).length c.toNat ∧ H' = own k (some ⟨b, 0, none⟩) c.toNat (List.replicate l.toNat z) :: H) := by
  subst hsz
  intro a w hk hw
  obtain ⟨h0, hlc, hcb⟩ := hb
  obtain ⟨inf, hi⟩ : ∃ inf, P.info? E = some inf := by
    have := he.size
    cases h : P.info? E with
    | none => rw [h] at this; cases this
    | some i => exact ⟨i, rfl⟩
  have hsize : inf.size = k.sz := by have := he.size; rw [hi] at this; simpa using this
  have hbytes : inf.bytes ≤ 65536 := by have := he.bytes; rw [hi] at this; simpa using this
  have hrs : ∀ w, (sizeOf E).run P w = .ok k.sz w := fun w => by simp [sizeOf, typeInfo, program, hi, Sem.run_bind, Sem.run, hsize]
  have hrt : ∀ w, (typeInfo E).run P w = .ok inf w := fun w => by simp [typeInfo, program, hi, Sem.run_bind, Sem.run]
  obtain ⟨zv, hzv, hzc⟩ : ∃ zv, (∀ w, (zeroValue E).run P w = .ok zv w) ∧ zv.cells = ⟨zs⟩ := by
    obtain ⟨zv, h1, h2⟩ := hz.run w
    refine ⟨zv, fun w' => ?_, h2⟩
    obtain ⟨zv', h1', _⟩ := hz.run w'
    have hzz := hz.zero
    rw [hi] at hzz
    simp only [Option.bind_some] at hzz
    cases hq : inf.zero with
    | none => rw [hq] at hzz; cases hzz
    | some q =>
      have e : ∀ w, (zeroValue E).run P w = .ok q w := fun w => by simp [zeroValue, typeInfo, program, hi, Sem.run_bind, Sem.run, hq]
      rw [e] at h1
      cases h1
      exact e w'
  have wl : IntKind.i64.wrap l = l := IntWalk.i64_in l (by omega)
  have wc : IntKind.i64.wrap c = c := IntWalk.i64_in c (by omega)
  have hbig : (inf.bytes : Int) * c ≤ 2 ^ 48 := by
    have : (inf.bytes : Int) * c ≤ 65536 * 1073741824 := Int.mul_le_mul (by omega) hcb (by omega) (by omega)
    omega
  have hask : ∀ m w, (askRoom m).run P w = .ok () w := fun m w => by unfold askRoom; split <;> rfl
  have htl : (decide (c < 0) || decide ((inf.bytes : Int) * c > 2 ^ 48)) = false := by
    simp only [Bool.or_eq_false_iff, decide_eq_false_iff_not]; omega
  simp only [execOp, hop, hk.eval hx, hk.eval hy, Instr.makeSlice, Sem.run_bind, run_underlying he.slice, Result.andThen_ok, asInt, asIntOf, Sem.run_pure, hrt, wl, wc, htl, Bool.false_or]
  have h1 : (decide (l < 0) || decide (l > c)) = false := by simp only [Bool.or_eq_false_iff, decide_eq_false_iff_not]; omega
  simp only [h1, Bool.false_eq_true, if_false, Sem.run_bind, hask, Result.andThen_ok, hrs, Sem.run_pure]
  have hfin : ∀ cells : Array Value, cells = ⟨(List.replicate l.toNat zs).flatten ++ (List.replicate (c.toNat - l.toNat) zs).flatten⟩ →
      Holds { w with heap := w.heap.push (.cells cells E) } (own k (some ⟨w.heap.size, 0, none⟩) c.toNat (List.replicate l.toNat z) :: H) := by
    rintro _ rfl
    obtain ⟨I, O, hI, hO, hd, hs⟩ := hw
    have hfl : ∀ m, (List.replicate m zs).flatten.length = m * k.sz := fun m => by simp [hzl]
    exact Holds.fresh (k := k) (xs := List.replicate l.toNat z) (cap := c.toNat) (rest := (List.replicate (c.toNat - l.toNat) zs).flatten) (t := E) (m := w.drawn) hI hO hd hs (reps_rep (hrep w I) l.toNat)
      (by rw [hfl, hfl, ← Nat.add_mul]; congr 1; omega) (by simp; omega)
  by_cases h : c.toNat * k.sz = 0
  · rw [if_pos h]
    have hc0 : c.toNat = 0 := by
      rcases Nat.mul_eq_zero.1 h with h | h
      · exact h
      · omega
    simp only [newRow, newObj, Sem.run_bind, Sem.run, Sem.run_pure, Result.andThen_ok]
    refine ⟨_, ⟨w.heap.size, by simp, rfl⟩, hfin _ ?_⟩
    have : l.toNat = 0 := by omega
    simp [hc0, this]
  · rw [if_neg h]
    simp only [newRow, newObj, Sem.run_bind, Sem.run, Sem.run_pure, Result.andThen_ok, hzv]
    refine ⟨_, ⟨w.heap.size, by simp, rfl⟩, hfin _ ?_⟩
    apply Array.ext'
    rw [← List.flatten_append, List.replicate_append_replicate, show l.toNat + (c.toNat - l.toNat) = c.toNat by omega, ← range_rows]
    simp only [Array.toList_map, Array.toList_range, hzl, hzc]
    apply List.map_congr_left
    intro i _
    show (Array.mk zs)[i % zs.length]! = zs[i % k.sz]!
    rw [hzl]
    simp

/-! a cut of one's own -/
theorem Ex.owncut {k : Kd α} {a : Option Addr} {c sz : Nat} {xs z : List α} {lo hi : Int} (hp : Pull (own k a c xs) H G) (hz : lslice xs lo hi = some z) (hs : k.sz = sz) :
    Ex H (fun a' => a' = sliceA a c lo.toNat sz ∧ xs.length ≤ c) (fun a' => own k a' (c - lo.toNat) z :: G) := by
  subst hs
  intro w hw
  obtain ⟨I, O, hI, hO, hd, hs⟩ := hw
  obtain ⟨O1, O2, h1, h2, h12, hA, hH⟩ := hp.sat w I O hs
  obtain ⟨hb, rfl, hzl⟩ := lsliceE hz
  rcases hA with ⟨rfl, rfl, rfl⟩ | ⟨b, r, rfl, hl, hc, hx⟩
  · refine ⟨none, ⟨by simp [sliceA], Nat.zero_le _⟩, I, O, hI, hO, hd, O1, O2, h1, h2, h12, .inl ⟨rfl, by simp, by simp⟩, hH⟩
  · refine ⟨_, ⟨rfl, hl⟩, I, O, hI, hO, hd, O1, O2, h1, h2, h12, ?_, hH⟩
    have hlo : lo.toNat ≤ xs.length := by omega
    by_cases e : c = lo.toNat
    · refine .inr ⟨b, r, by simp [sliceA, e], by rw [hzl]; omega, fun t ht => by rw [e] at ht; simp at ht, fun i hi => ?_⟩
      rw [hzl] at hi; omega
    · refine .inr ⟨b, r + lo.toNat * k.sz, ?_, by rw [hzl]; omega, fun t ht => ?_, fun i hi => ?_⟩
      · simp only [sliceA, if_neg e, Option.map_some, Addr.add]
        split
        · rename_i h0; rw [h0]; rfl
        · rfl
      · have := hc (lo.toNat * k.sz + t) (by rw [Nat.sub_mul] at ht; have : lo.toNat * k.sz ≤ c * k.sz := Nat.mul_le_mul_right _ (by omega); omega)
        rwa [← Nat.add_assoc] at this
      · rw [hzl] at hi
        obtain ⟨cs, hr, hj⟩ := hx (lo.toNat + i) (by omega)
        refine ⟨cs, ?_, fun j hjl => ?_⟩
        · simp only [List.getElem_drop, List.getElem_take]; exact hr
        · have := hj j hjl
          rw [Nat.add_mul] at this
          rw [show r + lo.toNat * k.sz + i * k.sz + j = r + (lo.toNat * k.sz + i * k.sz) + j by omega]
          exact this

/-! builders of texts -/
/-- of what type a block is -/
def shp (b : Nat) (t : TypeId) (m : Nat) : Asr where
  holds w _ _ := w.shape? b = some (t, m)
  mono := by
    intro w w' I I' O O' h hI hO hk
    unfold World.shape? at h ⊢
    cases hh : w.heap[b]? with
    | none => rw [hh] at h; cases h
    | some x =>
      rw [hh] at h
      cases x with
      | cells c t' f =>
        have h1 := hk.shp b (t', c.size, f) (by unfold mt; rw [hh])
        unfold mt at h1
        cases hh' : w'.heap[b]? with
        | none => rw [hh'] at h1; cases h1
        | some x' =>
          rw [hh'] at h1
          cases x' with
          | cells c' t'' f' => simp only [Option.some.injEq, Prod.mk.injEq] at h1 h ⊢; exact ⟨h1.1.trans h.1, h1.2.1.trans h.2⟩
          | _ => cases h1
      | _ => cases h
instance {b : Nat} {t : TypeId} {m : Nat} : Pers (shp b t m) := ⟨fun _ _ _ h => h⟩
/-- a builder of a text, that has some bytes -/
def bld (T : TypeId) (b o : Nat) (x : Str) : Asr := sep fun q : Option Addr × Option Addr × Nat =>
  [pt b o [.pointer q.1, .slice q.2.1 x.length q.2.2], own kU8 q.2.1 q.2.2 x, shp b T 2, fact (o = 0 ∧ (q.1 = none ∨ q.1 = some ⟨b, 0, none⟩))]
theorem shape_new {w : World} {cs : Array Value} {t : TypeId} : World.shape? { w with heap := w.heap.push (.cells cs t) } w.heap.size = some (t, cs.size) := by
  simp [World.shape?]
theorem st_alloc_bld {t : TypeId} (hop : o.op = .alloc t) (hz : Zero P t [.pointer none, .slice none 0 0]) : Step P o n fr H (fun v H' => ∃ b, v = .pointer (some ⟨b, 0, none⟩) ∧ H' = bld t b 0 [] :: H) := by
  intro a w hk hw
  obtain ⟨z, hz, hc⟩ := hz.run w
  simp only [execOp, hop, Instr.alloc, Sem.run_bind, hz, Result.andThen_ok, newVar, newRow, newObj, Sem.run, hc, Sem.run_pure]
  refine ⟨_, ⟨_, rfl, rfl⟩, ?_⟩
  have h1 := hw.new [.pointer none, .slice none 0 0] t
  have h2 : Imp (pt w.heap.size 0 [.pointer none, .slice none 0 0] :: H) (own kU8 none 0 [] :: pt w.heap.size 0 [.pointer none, .slice none 0 0] :: H) := Imp.own_nil
  obtain ⟨I, O, hI, hO, hd, hs⟩ := h2 _ h1
  obtain ⟨O1, O2, g1, g2, g12, hA, O3, O4, g3, g4, g34, hB, hH⟩ := hs
  refine ⟨I, O, hI, hO, hd, O3, O4, fun _ _ x => g2 _ _ (g3 _ _ x), fun _ _ x => g2 _ _ (g4 _ _ x), g34, ⟨(none, none, 0), ?_⟩, hH⟩
  exact ⟨O3, fun _ _ => False, fun _ _ x => x, fun _ _ x => x.elim, fun _ _ _ x => x, hB, fun _ _ => False, fun _ _ => False, fun _ _ x => x, fun _ _ x => x, fun _ _ x _ => x, .inl ⟨rfl, rfl, rfl⟩, fun _ _ => False, fun _ _ => False, fun _ _ x => x, fun _ _ x => x, fun _ _ x _ => x,
    shape_new, fun _ _ => False, fun _ _ => False, fun _ _ x => x, fun _ _ x => x, fun _ _ x _ => x, ⟨rfl, .inl rfl⟩, trivial⟩
end
end Go.WG
