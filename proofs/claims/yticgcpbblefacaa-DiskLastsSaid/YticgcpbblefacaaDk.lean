/- The disk in plain words, and how it lies in memory. -/
import Derived.Test.YticgcpbblefacaaMp
import Derived.Test.YticgcpbblefacaaRp
import Derived.Lib.OwnKind
namespace Go.Proofs.Yticgcpbblefacaa
open Go.RowKit

/-- an act: so many bytes of a file at a place -/
structure Wr where
  name : Bytes
  at_ : Nat
  data : Bytes
def laidL (s : Bytes) (k : Nat) (data : Bytes) : Bytes :=
  let s' := s ++ zeros (k - s.length)
  s'.take k ++ data ++ s'.drop (min s'.length (k + data.length))
def half (torn : Bool) (l : Bytes) : Bytes := if torn then l.take (l.length / 2) else l
def doneL (fs : Files) (a : Wr) (torn : Bool) : Files := put fs a.name (laidL ((get fs a.name).getD []) a.at_ (half torn a.data))

structure DS where
  limit : Nat
  now : Files
  firm : Files
  acts : List Wr
  armed : Int
  dead : Bool

/-- what an act is in memory: a function with what it has caught -/
def ActAt (w : World) (u : Value) (a : Wr) : Prop :=
  ∃ p q r, u = .func (.func 21) #[] #[.pointer (some ⟨p, 0, none⟩), .pointer (some ⟨q, 0, none⟩), .pointer (some ⟨r, 0, none⟩)] ∧ Blk w p 9 #[.string (bs a.data)] ∧ Blk w q 9 #[.string (bs a.name)] ∧ Blk w r 3 #[.int .i64 (a.at_ : Nat)]
def Acts (w : World) : List Value → List Wr → Prop
  | [], [] => True
  | u :: us, a :: r => ActAt w u a ∧ Acts w us r
  | _, _ => False
/-- block g holds nothing that an act has caught -/
def NotBox (w : World) (g : Nat) : Prop := ∀ t cs, Blk w g t cs → t ≠ 9 ∧ t ≠ 3
section
variable {w w' : World}
theorem ActAt.grown {u : Value} {a : Wr} {row : Option Nat} (h : ActAt w u a) (hg : w.grownBy w' row) (hn : ∀ g, row = some g → NotBox w g) : ActAt w' u a := by
  obtain ⟨p, q, r, e, hp, hq, hr⟩ := h
  have ne : ∀ {i t cs}, Blk w i t cs → t = 9 ∨ t = 3 → some i ≠ row := by
    intro i t cs hb ht e
    have := hn i e.symm t cs hb
    rcases ht with ht | ht
    · exact this.1 ht
    · exact this.2 ht
  exact ⟨p, q, r, e, hp.grown hg (ne hp (.inl rfl)), hq.grown hg (ne hq (.inl rfl)), hr.grown hg (ne hr (.inr rfl))⟩
theorem Acts.grown {row : Option Nat} (hg : w.grownBy w' row) (hn : ∀ g, row = some g → NotBox w g) : ∀ {us : List Value} {al : List Wr}, Acts w us al → Acts w' us al
  | [], [], _ => trivial
  | _ :: _, _ :: _, h => ⟨h.1.grown hg hn, Acts.grown hg hn h.2⟩
  | [], _ :: _, h => h.elim
  | _ :: _, [], h => h.elim
theorem Acts.snoc {u : Value} {a : Wr} (ha : ActAt w u a) : ∀ {us : List Value} {al : List Wr}, Acts w us al → Acts w (us ++ [u]) (al ++ [a])
  | [], [], _ => ⟨ha, trivial⟩
  | _ :: _, _ :: _, h => ⟨h.1, Acts.snoc ha h.2⟩
  | [], _ :: _, h => h.elim
  | _ :: _, [], h => h.elim
theorem Acts.len : ∀ {us : List Value} {al : List Wr}, Acts w us al → us.length = al.length
  | [], [], _ => rfl
  | _ :: _, _ :: _, h => by simp [Acts.len h.2]
  | [], _ :: _, h => h.elim
  | _ :: _, [], h => h.elim
theorem Acts.at_ : ∀ {us : List Value} {al : List Wr} (_ : Acts w us al) {k : Nat} {a : Wr} (_ : al[k]? = some a), ∃ u, us[k]? = some u ∧ ActAt w u a
  | [], [], _, _, _, h => by simp at h
  | u :: _, _ :: _, h, 0, _, hk => by cases hk; exact ⟨u, rfl, h.1⟩
  | _ :: us, _ :: al, h, k + 1, a, hk => by simpa using Acts.at_ h.2 (k := k) (a := a) (by simpa using hk)
  | [], _ :: _, h, _, _, _ => h.elim
  | _ :: _, [], h, _, _, _ => h.elim
theorem NotBox.blk {g : Nat} {t : TypeId} {cs : Array Value} (h : Blk w g t cs) (h9 : t ≠ 9) (h3 : t ≠ 3) : NotBox w g := by
  intro t' cs' h'
  unfold Blk at h h'
  rw [h] at h'
  cases h'
  exact ⟨h9, h3⟩
theorem NotBox.fs {g : Nat} {fs : Files} (h : Fs w g fs) : NotBox w g := by
  intro t' cs' h'
  unfold Blk at h'
  unfold Fs fobj at h
  rw [h] at h'
  cases h'
theorem NotBox.row {B n : Nat} {v : Value} {xs : List Value} (h : w.ownsRow B 55 1 v n xs) : ∀ g, v.ownBlock = some g → NotBox w g := by
  intro g hg t cs hb
  obtain ⟨c, fz, h1⟩ := Lib.ownsRow_kind h g hg
  unfold Blk at hb
  rw [h1] at hb
  cases hb
  exact ⟨by decide, by decide⟩

/-- a list of acts in memory, in its own row -/
def Rowed (w : World) (B : Nat) (v : Value) (al : List Wr) : Prop := ∃ us, w.ownsRow B 55 1 v al.length us ∧ Acts w us al
theorem Rowed.nil_ (w : World) (B : Nat) : Rowed w B (.slice none 0 0) [] := ⟨[], ⟨rfl, .inl ⟨rfl, rfl⟩⟩, trivial⟩
theorem Rowed.grown {B : Nat} {v : Value} {al : List Wr} {row : Option Nat} (h : Rowed w B v al) (hg : w.grownBy w' row) (hn : ∀ g, row = some g → NotBox w g) (hne : v.ownBlock = none ∨ v.ownBlock ≠ row) : Rowed w' B v al := by
  obtain ⟨us, h1, h2⟩ := h
  exact ⟨us, h1.kept hg hne, h2.grown hg hn⟩
theorem Rowed.ne_fs {B g : Nat} {v : Value} {al : List Wr} {fs : Files} (h : Rowed w B v al) (hg : Fs w g fs) : v.ownBlock ≠ some g := by
  intro e
  obtain ⟨us, h1, _⟩ := h
  obtain ⟨c, fz, h2⟩ := Lib.ownsRow_kind h1 g e
  unfold Fs fobj at hg
  rw [h2] at hg
  cases hg
theorem Rowed.ne_blk {B g : Nat} {v : Value} {al : List Wr} {t : TypeId} {cs : Array Value} (h : Rowed w B v al) (hg : Blk w g t cs) (ht : t ≠ 55) : v.ownBlock ≠ some g := by
  intro e
  obtain ⟨us, h1, _⟩ := h
  obtain ⟨c, fz, h2⟩ := Lib.ownsRow_kind h1 g e
  unfold Blk at hg
  rw [h2] at hg
  cases hg
  exact ht rfl

structure Dsk (B : Nat) (w : World) (d nb fb : Nat) (v : Value) (st : DS) : Prop where
  blk : Blk w d 50 #[.int .i64 (st.limit : Nat), .map (some nb), .map (some fb), v, .int .i64 st.armed, .bool st.dead]
  now : Fs w nb st.now
  firm : Fs w fb st.firm
  ne : nb ≠ fb
  acts : Rowed w B v st.acts
  bd : B ≤ d
  bn : B ≤ nb
  bf : B ≤ fb
theorem Dsk.later {B d nb fb : Nat} {v : Value} {st : DS} (h : Dsk B w d nb fb v st) (hb : Below w.heap.size w w') : Dsk B w' d nb fb v st :=
  ⟨h.blk.below hb h.blk.lt, h.now.below hb, h.firm.below hb, h.ne, h.acts.grown (gb_of_below hb none) (fun _ e => by cases e) (by
    obtain ⟨us, h1, _⟩ := h.acts
    rcases h1.2 with ⟨hv, _⟩ | ⟨g, cap, cur, hv, _⟩
    · left; rw [hv]; rfl
    · right; rw [hv]; simp [Value.ownBlock]), h.bd, h.bn, h.bf⟩
/-- the disk's own cells are written -/
theorem Dsk.cells {B d nb fb : Nat} {v : Value} {st st' : DS} (h : Dsk B w d nb fb v st) (hg : w.grownBy w' (some d))
    (hb : Blk w' d 50 #[.int .i64 (st'.limit : Nat), .map (some nb), .map (some fb), v, .int .i64 st'.armed, .bool st'.dead]) (hn : st'.now = st.now) (hf : st'.firm = st.firm) (ha : st'.acts = st.acts) : Dsk B w' d nb fb v st' :=
  ⟨hb, by rw [hn]; exact h.now.grown hg (fun e => h.now.ne_blk h.blk (by cases e; rfl)), by rw [hf]; exact h.firm.grown hg (fun e => h.firm.ne_blk h.blk (by cases e; rfl)), h.ne,
   by rw [ha]; exact h.acts.grown hg (fun g e => by cases e; exact NotBox.blk h.blk (by decide) (by decide)) (.inr (h.acts.ne_blk h.blk (by decide))), h.bd, h.bn, h.bf⟩
/-- the files that are there are written -/
theorem Dsk.written {B d nb fb : Nat} {v : Value} {st : DS} {fs : Files} (h : Dsk B w d nb fb v st) (hg : w.grownBy w' (some nb)) (hn : Fs w' nb fs) : Dsk B w' d nb fb v { st with now := fs } :=
  ⟨h.blk.grown hg (fun e => h.now.ne_blk h.blk (by cases e; rfl)), hn, h.firm.grown hg (fun e => h.ne (by cases e; rfl)), h.ne,
   h.acts.grown hg (fun g e => by cases e; exact NotBox.fs h.now) (.inr (h.acts.ne_fs h.now)), h.bd, h.bn, h.bf⟩
theorem Dsk.hardened {B d nb fb : Nat} {v : Value} {st : DS} {fs : Files} (h : Dsk B w d nb fb v st) (hg : w.grownBy w' (some fb)) (hn : Fs w' fb fs) : Dsk B w' d nb fb v { st with firm := fs } :=
  ⟨h.blk.grown hg (fun e => h.firm.ne_blk h.blk (by cases e; rfl)), h.now.grown hg (fun e => h.ne (by cases e; rfl)), hn, h.ne,
   h.acts.grown hg (fun g e => by cases e; exact NotBox.fs h.firm) (.inr (h.acts.ne_fs h.firm)), h.bd, h.bn, h.bf⟩
end
end Go.Proofs.Yticgcpbblefacaa
