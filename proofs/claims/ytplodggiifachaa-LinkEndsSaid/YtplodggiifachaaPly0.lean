/- The play of chapter 15's last laws in plain Lean, and how it lies in memory. -/
import Derived.Test.YtplodggiifachaaLink8
namespace Go.Proofs.Ytplodggiifachaa
open Go.RowKit
set_option linter.unusedVariables false
set_option linter.unusedSimpArgs false

/-- A packet: its epoch, its number, its body. -/
structure Pk where
  ep : Int
  no : Int
  body : ByteArray
def Pk.vals (x : Pk) : List Value := [.int .i64 x.ep, .int .i64 x.no, .string x.body]
def pks (l : List Pk) : List Value := l.flatMap Pk.vals
theorem pks_cons (x : Pk) (l : List Pk) : pks (x :: l) = .int .i64 x.ep :: .int .i64 x.no :: .string x.body :: pks l := rfl
theorem pks_append (a b : List Pk) : pks (a ++ b) = pks a ++ pks b := by simp [pks]
theorem pks_length (l : List Pk) : (pks l).length = l.length * 3 := by
  induction l with
  | nil => rfl
  | cons x l ih => rw [pks_cons]; simp only [List.length_cons, ih]; omega
theorem pks_one (l : List Pk) : ∀ u ∈ pks l, u.oneCell' = true := by
  intro u hu
  obtain ⟨r, _, h⟩ := List.mem_flatMap.1 hu
  simp only [Pk.vals, List.mem_cons, List.not_mem_nil, or_false] at h
  rcases h with rfl | rfl | rfl <;> rfl
theorem pks_at : ∀ (l : List Pk) (k : Nat) (h : k < l.length), (pks l)[k * 3]? = some (.int .i64 l[k].ep) ∧ (pks l)[k * 3 + 1]? = some (.int .i64 l[k].no) ∧ (pks l)[k * 3 + 2]? = some (.string l[k].body)
  | x :: l, 0, _ => ⟨rfl, rfl, rfl⟩
  | x :: l, k + 1, h => by
    have := pks_at l k (by simpa using h)
    rw [pks_cons, show (k + 1) * 3 = k * 3 + 1 + 1 + 1 from by omega]
    simpa using this
/-- An element of a row of packets. -/
theorem pks_get {w : World} {B n : Nat} {A : Option Addr} {l : List Pk} (h : Reads w B 3 A n (pks l)) {k : Nat} (hk : k < n) :
    ∃ (ad : Addr) (hl : k < l.length), A = some ad ∧ ad.block < B ∧ w.cell? (ad.add (k * 3)) = some (.int .i64 l[k].ep) ∧ w.cell? ⟨(ad.add (k * 3)).block, (ad.add (k * 3)).off + 1, none⟩ = some (.int .i64 l[k].no) ∧ w.cell? ⟨(ad.add (k * 3)).block, (ad.add (k * 3)).off + 2, none⟩ = some (.string l[k].body) := by
  obtain ⟨hlen, h2⟩ := h
  rw [pks_length] at hlen
  obtain ⟨ad, rfl, hb, hc⟩ := h2 (by omega)
  have hl : k < l.length := by omega
  obtain ⟨e0, e1, e2⟩ := pks_at l k hl
  have g : ∀ i v, i ≠ 0 → (pks l)[k * 3 + i]? = some v → w.cell? ⟨(ad.add (k * 3)).block, (ad.add (k * 3)).off + i, none⟩ = some v := fun i v hi h => by
    rw [← add_pos_eq _ hi, add_of_add]; exact hc _ _ h
  exact ⟨ad, hl, rfl, hb, hc _ _ e0, g 1 _ (by omega) e1, g 2 _ (by omega) e2⟩
/-- The packets that bear bodies from a number on. -/
def pkL (ep base : Int) : List ByteArray → List Pk
  | [] => []
  | z :: zs => ⟨ep, base, z⟩ :: pkL ep (base + 1) zs
theorem pkL_cells (ep : Int) : ∀ (zs : List ByteArray) (base : Int), pkCells ep base zs = pks (pkL ep base zs)
  | [], _ => rfl
  | z :: zs, base => by rw [pkCells, pkL, pks_cons, pkL_cells ep zs]
theorem pkL_length (ep : Int) : ∀ (zs : List ByteArray) (base : Int), (pkL ep base zs).length = zs.length
  | [], _ => rfl
  | z :: zs, base => by rw [pkL, List.length_cons, pkL_length ep zs, List.length_cons]

/-- A link on its way. -/
structure Ply where
  s : Snd
  rE : Int
  rW : Int
  way : List Pk
  put : List ByteArray
  got : List ByteArray
  ok : Bool
  wants : List Int
def plyC (p : Ply) (A : Option Addr) (c : Nat) (vw vp vg vn : Value) : Array Value :=
  #[.int .i64 p.s.ep, .int .i64 p.s.base, .slice A p.s.bodies.length c, .int .i64 p.s.timer, .int .i64 p.rE, .int .i64 p.rW, vw, vp, vg, .bool p.ok, vn]
/-- The rows of a play. -/
structure Rws (pb : Nat) (p : Ply) (A : Option Addr) (vw vp vg vn : Value) (w : World) : Prop where
  rd : Reads w w.heap.size 1 A p.s.bodies.length (p.s.bodies.map Value.string)
  far : 0 < p.s.bodies.length → ∀ ad, A = some ad → ad.block ≠ pb ∧ vw.ownBlock ≠ some ad.block ∧ vp.ownBlock ≠ some ad.block ∧ vg.ownBlock ≠ some ad.block ∧ vn.ownBlock ≠ some ad.block
  ow : w.ownsRow (pb + 1) 25 3 vw p.way.length (pks p.way)
  op : w.ownsRow (pb + 1) 9 1 vp p.put.length (p.put.map Value.string)
  og : w.ownsRow (pb + 1) 9 1 vg p.got.length (p.got.map Value.string)
  on : w.ownsRow (pb + 1) 3 1 vn p.wants.length (p.wants.map (Value.int .i64))
  pg : ∀ g, vp.ownBlock = some g → vg.ownBlock ≠ some g
/-- A play lies in a block. -/
def PlyM (pb : Nat) (p : Ply) (w : World) : Prop := ∃ A c vw vp vg vn, Blk w pb 53 (plyC p A c vw vp vg vn) ∧ p.s.bodies.length ≤ c ∧ Rws pb p A vw vp vg vn w

/-- Rows of elements of unlike types are two. -/
theorem row_types {w : World} {b1 b2 s1 s2 n1 n2 : Nat} {e1 e2 : TypeId} {v1 v2 : Value} {x1 x2 : List Value} (h1 : w.ownsRow b1 e1 s1 v1 n1 x1) (h2 : w.ownsRow b2 e2 s2 v2 n2 x2) (he : e1 ≠ e2) : ∀ g, v1.ownBlock = some g → v2.ownBlock ≠ some g := by
  intro g hg hg2
  rcases h1.2 with ⟨rfl, _⟩ | ⟨g1, c1, r1, rfl, _, d1, _⟩
  · simp [Value.ownBlock] at hg
  rcases h2.2 with ⟨rfl, _⟩ | ⟨g2, c2, r2, rfl, _, d2, _⟩
  · simp [Value.ownBlock] at hg2
  obtain rfl : g1 = g := by simpa [Value.ownBlock] using hg
  obtain rfl : g2 = g1 := by simpa [Value.ownBlock] using hg2
  have := d1.symm.trans d2
  simp at this
  exact he this.2
/-- A block of another type is no row's. -/
theorem blk_row {w : World} {g b s n : Nat} {t e : TypeId} {cs : Array Value} {v : Value} {x : List Value} (h : Blk w g t cs) (ho : w.ownsRow b e s v n x) (ht : t ≠ e) : some g ≠ v.ownBlock := by
  rcases ho.2 with ⟨rfl, _⟩ | ⟨g1, c1, r1, rfl, _, d1, _⟩
  · simp [Value.ownBlock]
  · intro e'
    obtain rfl : g = g1 := by simpa [Value.ownBlock] using e'
    have := (show w.heap[g]? = _ from h).symm.trans d1
    simp at this
    exact ht this.2
theorem row_kept {w w1 : World} {b s n : Nat} {e : TypeId} {v : Value} {x : List Value} {row : Option Nat} (h : w.ownsRow b e s v n x) (hg : w.grownBy w1 row) (hd : ∀ g, v.ownBlock = some g → row ≠ some g) : w1.ownsRow b e s v n x :=
  h.kept hg (by
    cases hv : v.ownBlock with
    | none => exact .inl rfl
    | some g => exact .inr (fun e => hd g hv e.symm))
theorem reads_kept {w w1 : World} {s n : Nat} {A : Option Addr} {x : List Value} {row : Option Nat} (h : Reads w w.heap.size s A n x) (hg : w.grownBy w1 row) (hd : ∀ ad, A = some ad → 0 < n → row ≠ some ad.block) : Reads w1 w1.heap.size s A n x :=
  ⟨h.1, fun hn => by
    obtain ⟨ad, e, hb, hc⟩ := h.2 hn
    refine ⟨ad, e, Nat.lt_of_lt_of_le hb hg.size, fun j v hv => (World.cell?_of_block ?_).trans (hc j v hv)⟩
    rw [block_of_add]
    exact hg.block _ hb (fun e' => hd ad e hn e'.symm)⟩
theorem reads_lt {w : World} {B s n : Nat} {A : Option Addr} {x : List Value} (h : Reads w B s A n x) (hs : 0 < s) {ad : Addr} (e : A = some ad) (hn : 0 < n) : ad.block < B := by
  obtain ⟨ad', e', hb, _⟩ := h.2 hn
  rw [e] at e'
  cases e'
  exact hb
section
variable {pb : Nat} {p : Ply} {A : Option Addr} {vw vp vg vn : Value} {w w1 : World}
/-- One block turns that is none of the rows. -/
theorem Rws.step (h : Rws pb p A vw vp vg vn w) {row : Option Nat} (hg : w.grownBy w1 row) (h1 : ∀ g, vw.ownBlock = some g → row ≠ some g) (h2 : ∀ g, vp.ownBlock = some g → row ≠ some g) (h3 : ∀ g, vg.ownBlock = some g → row ≠ some g) (h4 : ∀ g, vn.ownBlock = some g → row ≠ some g)
    (h5 : ∀ ad, A = some ad → 0 < p.s.bodies.length → row ≠ some ad.block) : Rws pb p A vw vp vg vn w1 :=
  ⟨reads_kept h.rd hg h5, h.far, row_kept h.ow hg h1, row_kept h.op hg h2, row_kept h.og hg h3, row_kept h.on hg h4, h.pg⟩
theorem Rws.alloc (h : Rws pb p A vw vp vg vn w) (o : Obj) : Rws pb p A vw vp vg vn (w.alloc o) :=
  h.step (World.grownBy_alloc w o none) (fun _ _ e => by cases e) (fun _ _ e => by cases e) (fun _ _ e => by cases e) (fun _ _ e => by cases e) (fun _ _ _ e => by cases e)
theorem Rws.drew (h : Rws pb p A vw vp vg vn w) : Rws pb p A vw vp vg vn w.drew := ⟨h.rd, h.far, h.ow, h.op, h.og, h.on, h.pg⟩
theorem grown_set (w : World) (q : Addr) (u : Value) : w.grownBy (w.setCell q u) (some q.block) := ⟨rfl, rfl, rfl, by simp, fun k _ hk => Below.heap_setCell w q u k (fun e => hk (by rw [e]))⟩
/-- A cell of the play's own block turns. -/
theorem Rws.set (h : Rws pb p A vw vp vg vn w) (o : Nat) (u : Value) : Rws pb p A vw vp vg vn (w.setCell ⟨pb, o, none⟩ u) :=
  h.step (grown_set w _ u) (fun g hg e => by have := (h.ow.lt g hg).1; simp at e; omega) (fun g hg e => by have := (h.op.lt g hg).1; simp at e; omega) (fun g hg e => by have := (h.og.lt g hg).1; simp at e; omega) (fun g hg e => by have := (h.on.lt g hg).1; simp at e; omega)
    (fun ad ha hn e => (h.far hn ad ha).1 (by simp at e; exact e.symm))
theorem Rws.below (h : Rws pb p A vw vp vg vn w) (hb : Below w.heap.size w w1) : Rws pb p A vw vp vg vn w1 :=
  ⟨reads_below h.rd hb, h.far, own_below h.ow hb, own_below h.op hb, own_below h.og hb, own_below h.on hb, h.pg⟩
theorem Rws.new_ (h : Rws pb p A vw vp vg vn w) {k : Nat} (hk : w.heap.size ≤ k) : (∀ g, vw.ownBlock = some g → g ≠ k) ∧ (∀ g, vp.ownBlock = some g → g ≠ k) ∧ (∀ g, vg.ownBlock = some g → g ≠ k) ∧ (∀ g, vn.ownBlock = some g → g ≠ k) ∧ ∀ ad, A = some ad → 0 < p.s.bodies.length → ad.block ≠ k :=
  ⟨fun g hg => by have := (h.ow.lt g hg).2; omega, fun g hg => by have := (h.op.lt g hg).2; omega, fun g hg => by have := (h.og.lt g hg).2; omega, fun g hg => by have := (h.on.lt g hg).2; omega, fun ad ha hn => by have := reads_lt h.rd (by omega) ha hn; omega⟩
/-- A cell of memory that came later than the rows turns. -/
theorem Rws.set_new (h : Rws pb p A vw vp vg vn w1) (h0 : Rws pb p A vw vp vg vn w) {q : Addr} (hq : w.heap.size ≤ q.block) (u : Value) : Rws pb p A vw vp vg vn (w1.setCell q u) := by
  obtain ⟨n1, n2, n3, n4, n5⟩ := h0.new_ hq
  exact h.step (grown_set w1 q u) (fun g hg e => n1 g hg (by simpa using e.symm)) (fun g hg e => n2 g hg (by simpa using e.symm)) (fun g hg e => n3 g hg (by simpa using e.symm)) (fun g hg e => n4 g hg (by simpa using e.symm)) (fun ad ha hn e => n5 ad ha hn (by simpa using e.symm))
/-- A row that came later than the rows turns. -/
theorem Rws.grow_new {w2 : World} {row : Option Nat} (h : Rws pb p A vw vp vg vn w1) (h0 : Rws pb p A vw vp vg vn w) (hg : w1.grownBy w2 row) (hr : ∀ k, row = some k → w.heap.size ≤ k) : Rws pb p A vw vp vg vn w2 :=
  h.step hg (fun g hg e => (h0.new_ (hr g e)).1 g hg rfl) (fun g hg e => (h0.new_ (hr g e)).2.1 g hg rfl) (fun g hg e => (h0.new_ (hr g e)).2.2.1 g hg rfl) (fun g hg e => (h0.new_ (hr g e)).2.2.2.1 g hg rfl) (fun ad ha hn e => (h0.new_ (hr _ e)).2.2.2.2 ad ha hn rfl)
/-- Where the bodies lie that an acknowledgement leaves: none of the rows. -/
theorem Rws.far_ack (h : Rws pb p A vw vp vg vn w) {n' : Nat} {A' : Option Addr} (hn' : n' ≤ p.s.bodies.length) (hA : A' = A ∨ ∀ ad, A' = some ad → w.heap.size ≤ ad.block) (hpb : pb < w.heap.size) :
    0 < n' → ∀ ad, A' = some ad → ad.block ≠ pb ∧ vw.ownBlock ≠ some ad.block ∧ vp.ownBlock ≠ some ad.block ∧ vg.ownBlock ≠ some ad.block ∧ vn.ownBlock ≠ some ad.block := by
  intro h0 ad ha
  rcases hA with e | e
  · exact h.far (by omega) ad (by rw [← e]; exact ha)
  · obtain ⟨n1, n2, n3, n4, n5⟩ := h.new_ (e ad ha)
    exact ⟨by have := e ad ha; omega, fun e => n1 _ e rfl, fun e => n2 _ e rfl, fun e => n3 _ e rfl, fun e => n4 _ e rfl⟩
theorem own_case {v v' : Value} {k g : Nat} (hnb : v'.ownBlock = v.ownBlock ∨ v'.ownBlock = some k) (hg : v'.ownBlock = some g) : v.ownBlock = some g ∨ g = k := by
  rcases hnb with e | e
  · exact .inl (e ▸ hg)
  · rw [hg] at e; injection e with e; exact .inr e
/-- An element behind the row of the bodies that were taken. -/
theorem Rws.app_got (h : Rws pb p A vw vp vg vn w) {x : ByteArray} {vg' : Value} (hgrow : w.grownBy w1 vg.ownBlock) (hown : w1.ownsRow (pb + 1) 9 1 vg' (p.got.length + 1) (p.got.map Value.string ++ [.string x])) (hnb : vg'.ownBlock = vg.ownBlock ∨ vg'.ownBlock = some w.heap.size) :
    Rws pb { p with got := p.got ++ [x] } A vw vp vg' vn w1 := by
  obtain ⟨n1, n2, n3, n4, n5⟩ := h.new_ (Nat.le_refl _)
  refine ⟨reads_kept h.rd hgrow (fun ad ha hn e => (h.far hn ad ha).2.2.2.1 e), fun hn ad ha => ?_, row_kept h.ow hgrow (fun g hg e => row_types h.ow h.og (by decide) g hg e), row_kept h.op hgrow (fun g hg e => h.pg g hg e), by simpa using hown, row_kept h.on hgrow (fun g hg e => row_types h.on h.og (by decide) g hg e), fun g hg e => ?_⟩
  · obtain ⟨f1, f2, f3, f4, f5⟩ := h.far hn ad ha
    refine ⟨f1, f2, f3, fun e => ?_, f5⟩
    rcases own_case hnb e with e | e
    · exact f4 e
    · exact n5 ad ha hn e
  · rcases own_case hnb e with e | e
    · exact h.pg g hg e
    · exact n2 g hg e
theorem Rws.app_put (h : Rws pb p A vw vp vg vn w) {x : ByteArray} {vp' : Value} (hgrow : w.grownBy w1 vp.ownBlock) (hown : w1.ownsRow (pb + 1) 9 1 vp' (p.put.length + 1) (p.put.map Value.string ++ [.string x])) (hnb : vp'.ownBlock = vp.ownBlock ∨ vp'.ownBlock = some w.heap.size) :
    Rws pb { p with put := p.put ++ [x] } A vw vp' vg vn w1 := by
  obtain ⟨n1, n2, n3, n4, n5⟩ := h.new_ (Nat.le_refl _)
  refine ⟨reads_kept h.rd hgrow (fun ad ha hn e => (h.far hn ad ha).2.2.1 e), fun hn ad ha => ?_, row_kept h.ow hgrow (fun g hg e => row_types h.ow h.op (by decide) g hg e), by simpa using hown, row_kept h.og hgrow (fun g hg e => h.pg g e hg), row_kept h.on hgrow (fun g hg e => row_types h.on h.op (by decide) g hg e), fun g hg e => ?_⟩
  · obtain ⟨f1, f2, f3, f4, f5⟩ := h.far hn ad ha
    refine ⟨f1, f2, fun e => ?_, f4, f5⟩
    rcases own_case hnb e with e | e
    · exact f3 e
    · exact n5 ad ha hn e
  · rcases own_case hnb hg with q | q
    · exact h.pg g q e
    · exact n3 g e q
theorem Rws.app_wants (h : Rws pb p A vw vp vg vn w) {x : Int} {vn' : Value} (hgrow : w.grownBy w1 vn.ownBlock) (hown : w1.ownsRow (pb + 1) 3 1 vn' (p.wants.length + 1) (p.wants.map (Value.int .i64) ++ [.int .i64 x])) (hnb : vn'.ownBlock = vn.ownBlock ∨ vn'.ownBlock = some w.heap.size) :
    Rws pb { p with wants := p.wants ++ [x] } A vw vp vg vn' w1 := by
  obtain ⟨n1, n2, n3, n4, n5⟩ := h.new_ (Nat.le_refl _)
  refine ⟨reads_kept h.rd hgrow (fun ad ha hn e => (h.far hn ad ha).2.2.2.2 e), fun hn ad ha => ?_, row_kept h.ow hgrow (fun g hg e => row_types h.ow h.on (by decide) g hg e), row_kept h.op hgrow (fun g hg e => row_types h.op h.on (by decide) g hg e), row_kept h.og hgrow (fun g hg e => row_types h.og h.on (by decide) g hg e), by simpa using hown, h.pg⟩
  obtain ⟨f1, f2, f3, f4, f5⟩ := h.far hn ad ha
  refine ⟨f1, f2, f3, f4, fun e => ?_⟩
  rcases own_case hnb e with e | e
  · exact f5 e
  · exact n5 ad ha hn e
/-- Packets behind those that are on their way. -/
theorem Rws.app_way (h : Rws pb p A vw vp vg vn w) {l : List Pk} {vw' : Value} (hgrow : w.grownBy w1 vw.ownBlock) (hown : w1.ownsRow (pb + 1) 25 3 vw' (p.way.length + l.length) (pks p.way ++ pks l)) (hnb : vw'.ownBlock = vw.ownBlock ∨ vw'.ownBlock = some w.heap.size) :
    Rws pb { p with way := p.way ++ l } A vw' vp vg vn w1 := by
  obtain ⟨n1, n2, n3, n4, n5⟩ := h.new_ (Nat.le_refl _)
  refine ⟨reads_kept h.rd hgrow (fun ad ha hn e => (h.far hn ad ha).2.1 e), fun hn ad ha => ?_, by simpa [pks_append] using hown, row_kept h.op hgrow (fun g hg e => row_types h.op h.ow (by decide) g hg e), row_kept h.og hgrow (fun g hg e => row_types h.og h.ow (by decide) g hg e), row_kept h.on hgrow (fun g hg e => row_types h.on h.ow (by decide) g hg e), h.pg⟩
  obtain ⟨f1, f2, f3, f4, f5⟩ := h.far hn ad ha
  refine ⟨f1, fun e => ?_, f3, f4, f5⟩
  rcases own_case hnb e with e | e
  · exact f2 e
  · exact n5 ad ha hn e
/-- Another row of packets, in memory that is new. -/
theorem Rws.new_way (h : Rws pb p A vw vp vg vn w) {l : List Pk} {vw' : Value} (hown : w.ownsRow (pb + 1) 25 3 vw' l.length (pks l)) (hA : 0 < p.s.bodies.length → ∀ ad, A = some ad → vw'.ownBlock ≠ some ad.block) :
    Rws pb { p with way := l } A vw' vp vg vn w :=
  ⟨h.rd, fun hn ad ha => ⟨(h.far hn ad ha).1, hA hn ad ha, (h.far hn ad ha).2.2⟩, hown, h.op, h.og, h.on, h.pg⟩
/-- Another sender. -/
theorem Rws.new_s (h : Rws pb p A vw vp vg vn w) {s : Snd} {A' : Option Addr} (hr : Reads w w.heap.size 1 A' s.bodies.length (s.bodies.map Value.string)) (hA : 0 < s.bodies.length → ∀ ad, A' = some ad → ad.block ≠ pb ∧ vw.ownBlock ≠ some ad.block ∧ vp.ownBlock ≠ some ad.block ∧ vg.ownBlock ≠ some ad.block ∧ vn.ownBlock ≠ some ad.block) :
    Rws pb { p with s := s } A' vw vp vg vn w := ⟨hr, hA, h.ow, h.op, h.og, h.on, h.pg⟩
theorem Rws.rcv (h : Rws pb p A vw vp vg vn w) (e q : Int) : Rws pb { p with rE := e, rW := q } A vw vp vg vn w := ⟨h.rd, h.far, h.ow, h.op, h.og, h.on, h.pg⟩
end
end Go.Proofs.Ytplodggiifachaa
