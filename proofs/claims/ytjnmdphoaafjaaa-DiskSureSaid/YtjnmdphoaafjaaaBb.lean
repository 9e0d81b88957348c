/- A disk, as it lies in a box. -/
import Derived.Test.YtjnmdphoaafjaaaBa
import Derived.Test.YtjnmdphoaafjaaaM3
namespace Go.Proofs.Ytjnmdphoaafjaaa
set_option linter.unusedSimpArgs false
set_option linter.unusedVariables false
set_option linter.defProp false
open Go Go.Abs

/-- what was done to a file: bytes laid behind, or cut -/
inductive Ch where
  | lay (b : List (BitVec 8))
  | cut (n : Int)
/-- what was done since: nothing yet, or a row with room behind it -/
inductive Sc where
  | nil
  | sl (l : List Ch) (fl : Fl)
def Sc.l : Sc → List Ch
  | .nil => []
  | .sl l _ => l
/-- a file; whose room is behind its parts -/
structure Fs where
  now : List (BitVec 8)
  nf : Fl
  sure : List (BitVec 8)
  sf : Fl
  sc : Sc
structure Dk where
  fs : List Fs
  off : Bool
  burns : Bool
  left : Int
  steps : Int
def f0 : Fs := ⟨[], .bor, [], .bor, .nil⟩
def chA : Ch → List AV
  | .lay b => [.raw (.bool false), .raw (.int .i64 0), .sl b.length (nums .u8 b) .bor]
  | .cut n => [.raw (.bool true), .raw (.int .i64 n), .raw (.slice none 0 0)]
theorem chA_len (c : Ch) : (chA c).length = 3 := by cases c <;> rfl
def chs : List Ch → List AV
  | [] => []
  | c :: l => chA c ++ chs l
theorem chs_len (l : List Ch) : (chs l).length = l.length * 3 := by
  induction l with
  | nil => rfl
  | cons c l ih => simp only [chs, List.length_append, ih, chA_len, List.length_cons]; omega
theorem chs_app (l m : List Ch) : chs (l ++ m) = chs l ++ chs m := by
  induction l with
  | nil => rfl
  | cons c l ih => simp only [List.cons_append, chs, ih, List.append_assoc]
theorem chs_pure (l : List Ch) : pureL (chs l) = true := by
  induction l with
  | nil => rfl
  | cons c l ih => cases c <;> simp [chs, chA, pureL, pureA, nums_pure, ih]
theorem chs_one (l : List Ch) : (chs l).all oneA = true := by
  induction l with
  | nil => rfl
  | cons c l ih => cases c <;> simp [chs, chA, oneA, List.all_append, ih]
theorem chs_inj : ∀ {l m : List Ch}, chs l = chs m → l = m
  | [], [], _ => rfl
  | [], c :: m, h => by cases c <;> simp [chs, chA] at h
  | c :: l, [], h => by cases c <;> simp [chs, chA] at h
  | c :: l, d :: m, h => by
    cases c <;> cases d <;> simp only [chs, chA, List.cons_append, List.nil_append, List.cons.injEq, AV.raw.injEq, Value.bool.injEq, Value.int.injEq, AV.sl.injEq, true_and, and_true, Bool.false_eq_true, Bool.true_eq_false, false_and, reduceCtorEq] at h
    · obtain ⟨⟨_, h3⟩, h4⟩ := h
      rw [nums_inj h3, chs_inj h4]
    · obtain ⟨h3, h4⟩ := h
      rw [h3, chs_inj h4]
def scA : Sc → AV
  | .nil => .raw (.slice none 0 0)
  | .sl l fl => .sl l.length (chs l) fl
theorem scA_nil : scA .nil = .raw (.slice none 0 0) := rfl
theorem scA_sl (l : List Ch) (fl : Fl) : scA (.sl l fl) = .sl l.length (chs l) fl := rfl
theorem scA_inj {s r : Sc} (h : scA s = scA r) : s = r := by
  cases s <;> cases r <;> simp only [scA, AV.sl.injEq, reduceCtorEq] at h
  · rfl
  · obtain ⟨_, h1, h2⟩ := h
    rw [chs_inj h1, h2]
def encF (f : Fs) : List AV := [.sl f.now.length (nums .u8 f.now) f.nf, .sl f.sure.length (nums .u8 f.sure) f.sf, scA f.sc]
def encT (d : Dk) : List AV := [.raw (.bool d.off), .raw (.bool d.burns), .raw (.int .i64 d.left), .raw (.int .i64 d.steps)]
def encFs : List Fs → List AV
  | [] => []
  | f :: l => encF f ++ encFs l
def enc (d : Dk) : List AV := encFs d.fs ++ encT d
theorem encF_inj {f g : Fs} (h : encF f = encF g) : f = g := by
  obtain ⟨a1, a2, a3, a4, a5⟩ := f
  obtain ⟨b1, b2, b3, b4, b5⟩ := g
  simp only [encF, List.cons.injEq, AV.sl.injEq, and_true] at h
  obtain ⟨⟨_, h1, h2⟩, ⟨_, h3, h4⟩, h5⟩ := h
  rw [nums_inj h1, nums_inj h3, scA_inj h5, h2, h4]
theorem len4 {α : Type} {l : List α} (h : l.length = 4) : ∃ a b c d, l = [a, b, c, d] := by
  match l, h with
  | [a, b, c, d], _ => exact ⟨a, b, c, d, rfl⟩
theorem enc_inj {d e : Dk} (hd : d.fs.length = 4) (he : e.fs.length = 4) (h : enc d = enc e) : d = e := by
  obtain ⟨fs, o, u, l, s⟩ := d
  obtain ⟨fs', o', u', l', s'⟩ := e
  obtain ⟨a, b, c, d, rfl⟩ := len4 hd
  obtain ⟨a', b', c', d', rfl⟩ := len4 he
  simp only [enc, encFs, encT, encF, List.cons_append, List.nil_append, List.cons.injEq, AV.raw.injEq, Value.bool.injEq, Value.int.injEq, true_and, and_true] at h
  obtain ⟨h1, h2, h3, h4, h5, h6, h7, h8, h9, h10, h11, h12, h13, h14, h15, h16⟩ := h
  have e1 : a = a' := encF_inj (by simp only [encF]; rw [h1, h2, h3])
  have e2 : b = b' := encF_inj (by simp only [encF]; rw [h4, h5, h6])
  have e3 : c = c' := encF_inj (by simp only [encF]; rw [h7, h8, h9])
  have e4 : d = d' := encF_inj (by simp only [encF]; rw [h10, h11, h12])
  rw [e1, e2, e3, e4, h13, h14, h15, h16]
open Classical in
/-- the disk that some cells are -/
noncomputable def dk? (cs : List AV) : Option Dk := if h : ∃ d : Dk, d.fs.length = 4 ∧ cs = enc d then some h.choose else none
theorem dk?_of {cs : List AV} {d : Dk} (h : dk? cs = some d) : d.fs.length = 4 ∧ cs = enc d := by
  unfold dk? at h
  split at h
  · rename_i h0; cases h; exact h0.choose_spec
  · cases h
theorem dk?_at {d : Dk} (h : d.fs.length = 4) : dk? (enc d) = some d := by
  unfold dk?
  have h0 : ∃ e : Dk, e.fs.length = 4 ∧ enc d = enc e := ⟨d, h, rfl⟩
  rw [dif_pos h0]
  obtain ⟨h1, h2⟩ := h0.choose_spec
  rw [enc_inj h1 h h2.symm]
def Dk.f (d : Dk) (k : Nat) : Fs := d.fs.getD k f0
def Dk.setF (d : Dk) (k : Nat) (f : Fs) : Dk := { d with fs := d.fs.set k f }
section
variable {d : Dk} (hd : d.fs.length = 4)
include hd
theorem enc_len : (enc d).length = 16 := by
  obtain ⟨fs, o, u, l, s⟩ := d
  obtain ⟨a, b, c, e, rfl⟩ := len4 hd
  rfl
theorem enc_now {k : Nat} (hk : k < 4) : (enc d)[k * 3]? = some (.sl (d.f k).now.length (nums .u8 (d.f k).now) (d.f k).nf) := by
  obtain ⟨fs, o, u, l, s⟩ := d
  obtain ⟨a, b, c, e, rfl⟩ := len4 hd
  match k, hk with
  | 0, _ => rfl
  | 1, _ => rfl
  | 2, _ => rfl
  | 3, _ => rfl
theorem enc_sure {k : Nat} (hk : k < 4) : (enc d)[k * 3 + 1]? = some (.sl (d.f k).sure.length (nums .u8 (d.f k).sure) (d.f k).sf) := by
  obtain ⟨fs, o, u, l, s⟩ := d
  obtain ⟨a, b, c, e, rfl⟩ := len4 hd
  match k, hk with
  | 0, _ => rfl
  | 1, _ => rfl
  | 2, _ => rfl
  | 3, _ => rfl
theorem enc_since {k : Nat} (hk : k < 4) : (enc d)[k * 3 + 2]? = some (scA (d.f k).sc) := by
  obtain ⟨fs, o, u, l, s⟩ := d
  obtain ⟨a, b, c, e, rfl⟩ := len4 hd
  match k, hk with
  | 0, _ => rfl
  | 1, _ => rfl
  | 2, _ => rfl
  | 3, _ => rfl
theorem enc_off : (enc d)[12]? = some (.raw (.bool d.off)) := by
  obtain ⟨fs, o, u, l, s⟩ := d
  obtain ⟨a, b, c, e, rfl⟩ := len4 hd
  rfl
theorem enc_burns : (enc d)[13]? = some (.raw (.bool d.burns)) := by
  obtain ⟨fs, o, u, l, s⟩ := d
  obtain ⟨a, b, c, e, rfl⟩ := len4 hd
  rfl
theorem enc_left : (enc d)[14]? = some (.raw (.int .i64 d.left)) := by
  obtain ⟨fs, o, u, l, s⟩ := d
  obtain ⟨a, b, c, e, rfl⟩ := len4 hd
  rfl
theorem enc_steps : (enc d)[15]? = some (.raw (.int .i64 d.steps)) := by
  obtain ⟨fs, o, u, l, s⟩ := d
  obtain ⟨a, b, c, e, rfl⟩ := len4 hd
  rfl
theorem set_off (x : Bool) : splice (enc d) 12 [.raw (.bool x)] = enc { d with off := x } := by
  obtain ⟨fs, o, u, l, s⟩ := d
  obtain ⟨a, b, c, e, rfl⟩ := len4 hd
  rfl
theorem set_burns (x : Bool) : splice (enc d) 13 [.raw (.bool x)] = enc { d with burns := x } := by
  obtain ⟨fs, o, u, l, s⟩ := d
  obtain ⟨a, b, c, e, rfl⟩ := len4 hd
  rfl
theorem set_left (x : Int) : splice (enc d) 14 [.raw (.int .i64 x)] = enc { d with left := x } := by
  obtain ⟨fs, o, u, l, s⟩ := d
  obtain ⟨a, b, c, e, rfl⟩ := len4 hd
  rfl
theorem set_steps (x : Int) : splice (enc d) 15 [.raw (.int .i64 x)] = enc { d with steps := x } := by
  obtain ⟨fs, o, u, l, s⟩ := d
  obtain ⟨a, b, c, e, rfl⟩ := len4 hd
  rfl
theorem set_now {k : Nat} (hk : k < 4) (n : Nat) (x : List (BitVec 8)) (fl : Fl) (hn : n = x.length) : splice (enc d) (k * 3) [.sl n (nums .u8 x) fl] = enc (d.setF k { d.f k with now := x, nf := fl }) := by
  subst hn
  obtain ⟨fs, o, u, l, s⟩ := d
  obtain ⟨a, b, c, e, rfl⟩ := len4 hd
  match k, hk with
  | 0, _ => rfl
  | 1, _ => rfl
  | 2, _ => rfl
  | 3, _ => rfl
theorem set_sure {k : Nat} (hk : k < 4) (n : Nat) (x : List (BitVec 8)) (fl : Fl) (hn : n = x.length) : splice (enc d) (k * 3 + 1) [.sl n (nums .u8 x) fl] = enc (d.setF k { d.f k with sure := x, sf := fl }) := by
  subst hn
  obtain ⟨fs, o, u, l, s⟩ := d
  obtain ⟨a, b, c, e, rfl⟩ := len4 hd
  match k, hk with
  | 0, _ => rfl
  | 1, _ => rfl
  | 2, _ => rfl
  | 3, _ => rfl
theorem set_since {k : Nat} (hk : k < 4) (n : Nat) (x : List Ch) (fl : Fl) (hn : n = x.length) : splice (enc d) (k * 3 + 2) [.sl n (chs x) fl] = enc (d.setF k { d.f k with sc := .sl x fl }) := by
  subst hn
  obtain ⟨fs, o, u, l, s⟩ := d
  obtain ⟨a, b, c, e, rfl⟩ := len4 hd
  match k, hk with
  | 0, _ => rfl
  | 1, _ => rfl
  | 2, _ => rfl
  | 3, _ => rfl
theorem set_nil {k : Nat} (hk : k < 4) : splice (enc d) (k * 3 + 2) [.raw (.slice none 0 0)] = enc (d.setF k { d.f k with sc := .nil }) := by
  obtain ⟨fs, o, u, l, s⟩ := d
  obtain ⟨a, b, c, e, rfl⟩ := len4 hd
  match k, hk with
  | 0, _ => rfl
  | 1, _ => rfl
  | 2, _ => rfl
  | 3, _ => rfl
theorem setF_len (k : Nat) (f : Fs) : (d.setF k f).fs.length = 4 := by simp [Dk.setF, hd]
theorem setF_at {k : Nat} (hk : k < 4) (f : Fs) : (d.setF k f).f k = f := by
  simp [Dk.setF, Dk.f, hd, hk]
end
theorem setF_off (d : Dk) (k : Nat) (f : Fs) : (d.setF k f).off = d.off := rfl
theorem setF_burns (d : Dk) (k : Nat) (f : Fs) : (d.setF k f).burns = d.burns := rfl
theorem setF_left (d : Dk) (k : Nat) (f : Fs) : (d.setF k f).left = d.left := rfl
theorem setF_steps (d : Dk) (k : Nat) (f : Fs) : (d.setF k f).steps = d.steps := rfl
theorem setF_set (d : Dk) (k : Nat) (f g : Fs) : (d.setF k f).setF k g = d.setF k g := by simp [Dk.setF]
/-- flags as they come in -/
def okF (L : Nat) (fl : Fl) : Prop := ∀ i z, fl = .own i z → i.lvl < L ∧ i.gen ≠ 0
def okS (L : Nat) (s : Sc) : Prop := ∀ l fl, s = .sl l fl → okF L fl
def okFs (L : Nat) (f : Fs) : Prop := okF L f.nf ∧ okF L f.sf ∧ okS L f.sc
def okD (L : Nat) (d : Dk) : Prop := ∀ f ∈ d.fs, okFs L f
theorem okD_of {L : Nat} {d : Dk} (h : ∀ x ∈ enc d, (∀ n ys i z, x = .sl n ys (.own i z) → i.lvl < L ∧ i.gen ≠ 0) ∧ ∀ vs, x ≠ .tup vs) : okD L d := by
  have key : ∀ (l : List Fs), (∀ x ∈ encFs l, (∀ n ys i z, x = .sl n ys (.own i z) → i.lvl < L ∧ i.gen ≠ 0) ∧ ∀ vs, x ≠ .tup vs) → ∀ f ∈ l, okFs L f := by
    intro l
    induction l with
    | nil => intro _ f hf; cases hf
    | cons g l ih =>
      intro h f hf
      rcases List.mem_cons.1 hf with rfl | hf
      · refine ⟨fun i z e => ?_, fun i z e => ?_, fun l fl e0 i z e => ?_⟩
        · exact (h (.sl f.now.length (nums .u8 f.now) f.nf) (by simp [encFs, encF])).1 _ _ i z (by rw [e])
        · exact (h (.sl f.sure.length (nums .u8 f.sure) f.sf) (by simp [encFs, encF])).1 _ _ i z (by rw [e])
        · exact (h (scA f.sc) (by simp [encFs, encF])).1 _ _ i z (by rw [e0, e, scA_sl])
      · exact ih (fun x hx => h x (by simp [encFs, hx])) f hf
  exact key d.fs fun x hx => h x (by simp [enc, hx])
theorem okD.f {L : Nat} {d : Dk} (h : okD L d) (hd : d.fs.length = 4) {k : Nat} (hk : k < 4) : okFs L (d.f k) := by
  refine h _ ?_
  unfold Dk.f
  rw [List.getD_eq_getElem?_getD, List.getElem?_eq_getElem (by omega)]
  exact List.getElem_mem _
/-- a flag as it is handed over -/
inductive FlR (L : Nat) (xp : List (Nat × Abs.Id)) : Fl → Fl → Prop
  | bor (fl : Fl) : FlR L xp fl .bor
  | same (fl : Fl) (h : okF L fl) : FlR L xp fl fl
  | give (i : Abs.Id) (z c : Nat) (h : (c, i) ∈ xp) : FlR L xp (.own i z) (.own ⟨0, 0, c, 0⟩ z)
theorem FlR.exp {σ : AS} {L : Nat} {xp : List (Nat × Abs.Id)} {bn : Option Bx} {fl fl' : Fl} (h : FlR L xp fl fl') {n : Nat} {xs : List AV} (hp : pureL xs = true) : ExpV σ L xp bn (.sl n xs fl) (.sl n xs fl') := by
  have hl := lowL_pure (L := L) xs hp
  cases h with
  | bor => exact .bor _ _ _ hl
  | same _ h =>
    cases fl with
    | bor => exact .bor _ _ _ hl
    | full => exact .full _ _ hl
    | own i z => obtain ⟨h1, h2⟩ := h i z rfl; exact .keep _ _ i z hl h1 h2
  | give i z c h => exact .give _ _ i z c hl h
inductive ScR (L : Nat) (xp : List (Nat × Abs.Id)) : Sc → Sc → Prop
  | nil : ScR L xp .nil .nil
  | sl (l : List Ch) (fl fl' : Fl) (h : FlR L xp fl fl') : ScR L xp (.sl l fl) (.sl l fl')
theorem ScR.same {L : Nat} {xp : List (Nat × Abs.Id)} {s : Sc} (h : okS L s) : ScR L xp s s := by
  cases s with
  | nil => exact .nil
  | sl l fl => exact .sl _ _ _ (.same _ (h l fl rfl))
theorem ScR.exp {σ : AS} {L : Nat} {xp : List (Nat × Abs.Id)} {bn : Option Bx} {s r : Sc} (h : ScR L xp s r) : ExpV σ L xp bn (scA s) (scA r) := by
  cases h with
  | nil => exact .raw _
  | sl l fl fl' h => exact h.exp (chs_pure _)
structure FsR (L : Nat) (xp : List (Nat × Abs.Id)) (f g : Fs) : Prop where
  now : f.now = g.now
  nf : FlR L xp f.nf g.nf
  sure : f.sure = g.sure
  sf : FlR L xp f.sf g.sf
  sc : ScR L xp f.sc g.sc
inductive FssR (L : Nat) (xp : List (Nat × Abs.Id)) : List Fs → List Fs → Prop
  | nil : FssR L xp [] []
  | cons {f g : Fs} {l m : List Fs} (h : FsR L xp f g) (t : FssR L xp l m) : FssR L xp (f :: l) (g :: m)
theorem FssR.same {L : Nat} {xp : List (Nat × Abs.Id)} : ∀ {l : List Fs}, (∀ f ∈ l, okFs L f) → FssR L xp l l
  | [], _ => .nil
  | f :: l, h => by
    obtain ⟨h1, h2, h3⟩ := h f (by simp)
    exact .cons ⟨rfl, .same _ h1, rfl, .same _ h2, .same h3⟩ (FssR.same fun g hg => h g (by simp [hg]))
theorem FssR.set {L : Nat} {xp : List (Nat × Abs.Id)} {f g : Fs} (h : FsR L xp f g) : ∀ {l m : List Fs} {k : Nat}, FssR L xp l m → FssR L xp (l.set k f) (m.set k g)
  | _, _, _, .nil => .nil
  | _, _, 0, .cons _ t => .cons h t
  | _, _, k + 1, .cons h0 t => .cons h0 (FssR.set h t)
theorem FssR.exp {σ : AS} {L : Nat} {xp : List (Nat × Abs.Id)} {bn : Option Bx} {t t' : List AV} (ht : ExpL σ L xp bn t t') : ∀ {l m : List Fs}, FssR L xp l m → ExpL σ L xp bn (encFs l ++ t) (encFs m ++ t')
  | _, _, .nil => ht
  | _, _, .cons (f := f) (g := g) h t => by
    obtain ⟨a1, a2, a3, a4, a5⟩ := f
    obtain ⟨b1, b2, b3, b4, b5⟩ := g
    obtain ⟨h1, h2, h3, h4, h6⟩ := h
    simp only at h1 h2 h3 h4 h6
    subst h1; subst h3
    simp only [encFs, encF, List.cons_append, List.nil_append]
    exact .cons (h2.exp (nums_pure _)) (.cons (h4.exp (nums_pure _)) (.cons h6.exp (FssR.exp ht t)))
theorem encExp {σ : AS} {L : Nat} {xp : List (Nat × Abs.Id)} {bn : Option Bx} {d e : Dk} (h : FssR L xp d.fs e.fs) (h1 : d.off = e.off) (h2 : d.burns = e.burns) (h3 : d.left = e.left) (h4 : d.steps = e.steps) : ExpL σ L xp bn (enc d) (enc e) := by
  unfold enc
  refine FssR.exp ?_ h
  unfold encT
  rw [h1, h2, h3, h4]
  exact .cons (.raw _) (.cons (.raw _) (.cons (.raw _) (.cons (.raw _) .nil)))
theorem FssR.setF {L : Nat} {xp : List (Nat × Abs.Id)} {d : Dk} {k : Nat} {f g : Fs} (hok : okD L d) (h : FsR L xp f g) : FssR L xp (d.setF k f).fs (d.setF k g).fs := FssR.set h (.same hok)
/-- what is the callee's to give has its name now -/
def Sc.ren (l s g : Nat) : Sc → Sc
  | .nil => .nil
  | .sl x fl => .sl x (renF l s g fl)
theorem scA_ren (l s g : Nat) (x : Sc) : ren1 l s g (scA x) = scA (x.ren l s g) := by cases x <;> rfl
theorem Sc.ren_nil (l s g : Nat) : Sc.nil.ren l s g = .nil := rfl
theorem Sc.ren_sl (l s g : Nat) (x : List Ch) (fl : Fl) : (Sc.sl x fl).ren l s g = .sl x (renF l s g fl) := rfl
def Fs.ren (l s g : Nat) (f : Fs) : Fs := { f with nf := renF l s g f.nf, sf := renF l s g f.sf, sc := f.sc.ren l s g }
def Dk.ren (l s g : Nat) (d : Dk) : Dk := { d with fs := d.fs.map (Fs.ren l s g) }
theorem enc_ren (l s g : Nat) (d : Dk) : (enc d).map (ren1 l s g) = enc (d.ren l s g) := by
  have key : ∀ fs : List Fs, (encFs fs).map (ren1 l s g) = encFs (fs.map (Fs.ren l s g)) := by
    intro fs
    induction fs with
    | nil => rfl
    | cons f fs ih =>
      simp only [encFs, List.map_append, ih, List.map_cons, encF, List.map_nil, Fs.ren, ← scA_ren]
      rfl
  simp only [enc, List.map_append, key, Dk.ren, encT, List.map_cons, ren1, List.map_nil]
theorem renF_ok {L l s g : Nat} {fl : Fl} (h : okF L fl) : renF l s g fl = fl := by
  cases fl with
  | own i z => simp only [renF]; rw [if_neg (h i z rfl).2]
  | _ => rfl
theorem renS_ok {L l s g : Nat} {x : Sc} (h : okS L x) : x.ren l s g = x := by
  cases x with
  | nil => rfl
  | sl y fl => simp only [Sc.ren]; rw [renF_ok (h y fl rfl)]
theorem okD.ren {L : Nat} {d : Dk} (h : okD L d) (l s g : Nat) : d.ren l s g = d := by
  have : d.fs.map (Fs.ren l s g) = d.fs := by
    conv => rhs; rw [← List.map_id d.fs]
    refine List.map_congr_left fun f hf => ?_
    obtain ⟨h1, h2, h3⟩ := h f hf
    simp only [Fs.ren, renF_ok h1, renF_ok h2, renS_ok h3, id]
  unfold Dk.ren
  rw [this]
theorem setF_ren (l s g k : Nat) (d : Dk) (f : Fs) : (d.setF k f).ren l s g = (d.ren l s g).setF k (f.ren l s g) := by
  simp only [Dk.setF, Dk.ren, List.map_set]
theorem mul3div (k : Nat) : k * 3 / 3 = k := by omega
end Go.Proofs.Ytjnmdphoaafjaaa
