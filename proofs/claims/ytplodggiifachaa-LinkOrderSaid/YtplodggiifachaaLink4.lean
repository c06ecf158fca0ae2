/- Walks of link.Push and the sender's packet. -/
import Derived.Test.YtplodggiifachaaLink3
import Derived.StillTailTactics
import Derived.BigRegion
import Derived.Deep.RegionHeld3
namespace Go.Proofs.Ytplodggiifachaa
open Go.RowKit
set_option linter.unusedVariables false
set_option linter.unusedSimpArgs false

theorem own_below {w w' : World} {base : Nat} {e : TypeId} {size : Nat} {v : Value} {n : Nat} {xs : List Value} (h : w.ownsRow base e size v n xs) (hb : Below w.heap.size w w') : w'.ownsRow base e size v n xs := by
  obtain ⟨h1, h2⟩ := h
  refine ⟨h1, ?_⟩
  rcases h2 with h2 | ⟨g, cap, cur, hv, hg, hh, r⟩
  · exact .inl h2
  · exact .inr ⟨g, cap, cur, hv, hg, (hb.block g (Array.getElem?_eq_some_iff.1 hh).1).trans hh, r⟩
theorem own_mono {w : World} {base base' : Nat} {e : TypeId} {size : Nat} {v : Value} {n : Nat} {xs : List Value} (h : w.ownsRow base e size v n xs) (hb : base' ≤ base) : w.ownsRow base' e size v n xs := by
  obtain ⟨h1, h2⟩ := h
  refine ⟨h1, ?_⟩
  rcases h2 with h2 | ⟨g, cap, cur, hv, hg, r⟩
  · exact .inl h2
  · exact .inr ⟨g, cap, cur, hv, by omega, r⟩
theorem own_drew {w : World} {base : Nat} {e : TypeId} {size : Nat} {v : Value} {n : Nat} {xs : List Value} (h : w.ownsRow base e size v n xs) : w.drew.ownsRow base e size v n xs := h
theorem below_drew {B : Nat} {a w : World} (h : Below B a w) : Below B a w.drew := ⟨h.os, h.tape, h.output, h.size, h.block⟩
theorem own_succ {w : World} {base : Nat} {e : TypeId} {size n : Nat} {v : Value} {xs : List Value} (h : w.ownsRow base e size v (n + 1) xs) : ∃ g cap, v = .slice (some ⟨g, 0, none⟩) (n + 1) cap := by
  rcases h.2 with ⟨rfl, h0⟩ | ⟨g, cap, cur, rfl, _⟩
  · omega
  · exact ⟨_, _, rfl⟩
theorem reads_alloc {w : World} {size n : Nat} {A : Option Addr} {xs : List Value} {o : Obj} (h : Reads w w.heap.size size A n xs) : Reads (w.alloc o) (w.alloc o).heap.size size A n xs := (h.alloc (Nat.le_refl _) o).more (by simp)
theorem reads_below {w w' : World} {size n : Nat} {A : Option Addr} {xs : List Value} (h : Reads w w.heap.size size A n xs) (hb : Below w.heap.size w w') : Reads w' w'.heap.size size A n xs := (h.below hb).more hb.size

set_option maxHeartbeats 1000000 in
theorem packet_any (ep base timer : Int) (zs : List ByteArray) (A : Option Addr) (n c i : Nat) (x : ByteArray) (w : World) (hr : Reads w w.heap.size 1 A n (zs.map Value.string)) (hi : zs[i]? = some x) (hb : 0 ≤ base ∧ base ≤ 1073741824) (hn : n ≤ 1000) :
    Calls Try.prog 29 #[.agg #[.int .i64 ep, .int .i64 base, .slice A n c, .int .i64 timer], .int .i64 i] w fun e w' => e = .returned (.agg #[.int .i64 ep, .int .i64 (base + i), .string x]) ∧ Below w.heap.size w w' := by
  have hlen := reads_len hr
  have hin : i < n := by have := (List.getElem?_eq_some_iff.1 hi).1; omega
  obtain ⟨ad, hl, rfl, hc⟩ := strs_at hr hin
  have hx : zs[i] = x := by rw [List.getElem?_eq_getElem hl] at hi; injection hi
  rw [hx] at hc
  go_enter Try.func29, Try.ntmps29
  have had := hr.2 (by omega)
  obtain ⟨ad', e, hadl, _⟩ := had
  injection e with e
  subst e
  have hc2 : ∀ o o', ((w.alloc o).alloc o').cell? (ad.add i) = some (.string x) := fun o o' => by
    rw [World.cell?_alloc_lt _ _ _ (by rw [block_of_add]; simp; omega), World.cell?_alloc_lt _ _ _ (by rw [block_of_add]; omega), hc]
  have wB : IntKind.i64.wrap (base + (i : Int)) = base + i := IntWalk.i64_in _ (by omega)
  go_wp2
  go_region
  go_wp2
  exact bodyPost_ret (v := .agg #[.int .i64 ep, .int .i64 (base + i), .string x]) (by simp [results, Try.results29, go_sem]) rfl ⟨rfl, by go_grown⟩

/-- What sending a body makes of a sender: the sender, the packet (epoch, number, body), the error's number. -/
def pushZ (s : Snd) (body : ByteArray) : Snd × (Int × Int × ByteArray) × Int :=
  if rightB s = false then (⟨0, 0, [], 0⟩, (0, 0, .empty), 1)
  else if 4096 < body.size then (⟨0, 0, [], 0⟩, (0, 0, .empty), 2)
  else if 8 ≤ s.bodies.length ∨ 1073741824 ≤ s.base + s.bodies.length then (⟨0, 0, [], 0⟩, (0, 0, .empty), 3)
  else (⟨s.ep, s.base, s.bodies ++ [body], if s.bodies.length = 0 then 4 else s.timer⟩, (s.ep, s.base + s.bodies.length, body), 0)
def PushPost (r : Snd × (Int × Int × ByteArray) × Int) (w : World) (e : Ending) (w' : World) : Prop :=
  ∃ A c, e = .returned (.tuple #[.agg #[.int .i64 r.1.ep, .int .i64 r.1.base, .slice A r.1.bodies.length c, .int .i64 r.1.timer], .agg #[.int .i64 r.2.1.1, .int .i64 r.2.1.2.1, .string r.2.1.2.2], .int .i64 r.2.2]) ∧
    w'.ownsRow w.heap.size 9 1 (.slice A r.1.bodies.length c) r.1.bodies.length (r.1.bodies.map Value.string) ∧ r.1.bodies.length ≤ c ∧ Below w.heap.size w w'
theorem push_none {w w' : World} {err : Int} (hB : Below w.heap.size w w') : PushPost (⟨0, 0, [], 0⟩, (0, 0, .empty), err) w (.returned (.tuple #[.agg #[.int .i64 0, .int .i64 0, .slice none 0 0, .int .i64 0], .agg #[.int .i64 0, .int .i64 0, .string .empty], .int .i64 err])) w' :=
  ⟨none, 0, rfl, World.ownsRow_nil _ _ _ _, by simp, hB⟩

theorem push_new {w w' : World} {A : Option Addr} {n c b : Nat} {ep base timer pe pn err : Int} {body : ByteArray} {zs : List ByteArray} (hN : zs.length = n) (ho : w'.ownsRow b 9 1 (.slice A n c) n (zs.map Value.string)) (hbb : w.heap.size ≤ b) (hB : Below w.heap.size w w') :
    PushPost (⟨ep, base, zs, timer⟩, (pe, pn, body), err) w (.returned (.tuple #[.agg #[.int .i64 ep, .int .i64 base, .slice A n c, .int .i64 timer], .agg #[.int .i64 pe, .int .i64 pn, .string body], .int .i64 err])) w' := by
  subst hN
  exact ⟨A, c, rfl, own_mono ho hbb, own_cap ho, hB⟩

set_option maxHeartbeats 6000000 in
theorem push_any (ep base timer : Int) (zs : List ByteArray) (A : Option Addr) (n c : Nat) (body : ByteArray) (w : World) (hr : Reads w w.heap.size 1 A n (zs.map Value.string)) (hm : n ≤ 9223372036854775807) (hs : ∀ z ∈ zs, z.size ≤ maxLen) (hbs : body.size ≤ maxLen) :
    Calls Try.prog 16 #[.agg #[.int .i64 ep, .int .i64 base, .slice A n c, .int .i64 timer], .string body] w (PushPost (pushZ ⟨ep, base, zs, timer⟩ body) w) := by
  unfold maxLen at hbs
  obtain rfl := (reads_len hr).symm
  cases hR : rightB ⟨ep, base, zs, timer⟩
  · rw [show pushZ ⟨ep, base, zs, timer⟩ body = (⟨0, 0, [], 0⟩, (0, 0, .empty), 1) from by unfold pushZ; rw [if_pos hR]]
    go_enter Try.func16, Try.ntmps16
    go_wp2_with fail
    refine (right_any ep base timer zs A zs.length c _ (reads_alloc (reads_alloc (reads_alloc hr))) hm hs).mono ?_
    rw [hR]
    rintro e w1 ⟨rfl, hb1⟩
    obtain ⟨c1, f1⟩ := bcell hb1
    have y1 := hb1.size
    try simp at y1
    have z0_0_1 : w.heap.size < w1.heap.size := by omega
    have z0_1_1 : w.heap.size + 1 < w1.heap.size := by omega
    have z0_2_1 : w.heap.size + 1 + 1 < w1.heap.size := by omega
    have k1 : Below w.heap.size w w1 := next_below (by go_grown) hb1
    go_wp2
    exact bodyPost_ret (v := .tuple #[.agg #[.int .i64 0, .int .i64 0, .slice none 0 0, .int .i64 0], .agg #[.int .i64 0, .int .i64 0, .string .empty], .int .i64 1]) (by simp [results, Try.results16, go_sem, c1, f1, z0_0_1, z0_1_1, z0_2_1, World.cell?_setCell_other]; rfl) rfl (push_none (by go_grown))
  have hR' : ¬ rightB ⟨ep, base, zs, timer⟩ = false := by rw [hR]; simp
  obtain ⟨⟨e1, e2⟩, l8, ⟨b1, b2⟩, _⟩ := rightB_iff.1 hR
  simp only at e1 e2 l8 b1 b2
  by_cases h1 : 4096 < body.size
  · rw [show pushZ ⟨ep, base, zs, timer⟩ body = (⟨0, 0, [], 0⟩, (0, 0, .empty), 2) from by unfold pushZ; rw [if_neg hR', if_pos h1]]
    go_enter Try.func16, Try.ntmps16
    go_wp2_with fail
    refine (right_any ep base timer zs A zs.length c _ (reads_alloc (reads_alloc (reads_alloc hr))) hm hs).mono ?_
    rw [hR]
    rintro e w1 ⟨rfl, hb1⟩
    obtain ⟨c1, f1⟩ := bcell hb1
    have y1 := hb1.size
    try simp at y1
    have z0_0_1 : w.heap.size < w1.heap.size := by omega
    have z0_1_1 : w.heap.size + 1 < w1.heap.size := by omega
    have z0_2_1 : w.heap.size + 1 + 1 < w1.heap.size := by omega
    have k1 : Below w.heap.size w w1 := next_below (by go_grown) hb1
    go_wp2
    exact bodyPost_ret (v := .tuple #[.agg #[.int .i64 0, .int .i64 0, .slice none 0 0, .int .i64 0], .agg #[.int .i64 0, .int .i64 0, .string .empty], .int .i64 2]) (by simp [results, Try.results16, go_sem, c1, f1, z0_0_1, z0_1_1, z0_2_1, World.cell?_setCell_other]; rfl) rfl (push_none (by go_grown))
  by_cases h2 : 8 ≤ zs.length
  · rw [show pushZ ⟨ep, base, zs, timer⟩ body = (⟨0, 0, [], 0⟩, (0, 0, .empty), 3) from by unfold pushZ; rw [if_neg hR', if_neg h1, if_pos (.inl h2)]]
    go_enter Try.func16, Try.ntmps16
    go_wp2_with fail
    refine (right_any ep base timer zs A zs.length c _ (reads_alloc (reads_alloc (reads_alloc hr))) hm hs).mono ?_
    rw [hR]
    rintro e w1 ⟨rfl, hb1⟩
    obtain ⟨c1, f1⟩ := bcell hb1
    have y1 := hb1.size
    try simp at y1
    have z0_0_1 : w.heap.size < w1.heap.size := by omega
    have z0_1_1 : w.heap.size + 1 < w1.heap.size := by omega
    have z0_2_1 : w.heap.size + 1 + 1 < w1.heap.size := by omega
    have k1 : Below w.heap.size w w1 := next_below (by go_grown) hb1
    go_wp2
    exact bodyPost_ret (v := .tuple #[.agg #[.int .i64 0, .int .i64 0, .slice none 0 0, .int .i64 0], .agg #[.int .i64 0, .int .i64 0, .string .empty], .int .i64 3]) (by simp [results, Try.results16, go_sem, c1, f1, z0_0_1, z0_1_1, z0_2_1, World.cell?_setCell_other]; rfl) rfl (push_none (by go_grown))
  by_cases h3 : 1073741824 ≤ base + zs.length
  · rw [show pushZ ⟨ep, base, zs, timer⟩ body = (⟨0, 0, [], 0⟩, (0, 0, .empty), 3) from by unfold pushZ; rw [if_neg hR', if_neg h1, if_pos (.inr h3)]]
    go_enter Try.func16, Try.ntmps16
    go_wp2_with fail
    refine (right_any ep base timer zs A zs.length c _ (reads_alloc (reads_alloc (reads_alloc hr))) hm hs).mono ?_
    rw [hR]
    rintro e w1 ⟨rfl, hb1⟩
    obtain ⟨c1, f1⟩ := bcell hb1
    have y1 := hb1.size
    try simp at y1
    have z0_0_1 : w.heap.size < w1.heap.size := by omega
    have z0_1_1 : w.heap.size + 1 < w1.heap.size := by omega
    have z0_2_1 : w.heap.size + 1 + 1 < w1.heap.size := by omega
    have k1 : Below w.heap.size w w1 := next_below (by go_grown) hb1
    go_wp2
    exact bodyPost_ret (v := .tuple #[.agg #[.int .i64 0, .int .i64 0, .slice none 0 0, .int .i64 0], .agg #[.int .i64 0, .int .i64 0, .string .empty], .int .i64 3]) (by simp [results, Try.results16, go_sem, c1, f1, z0_0_1, z0_1_1, z0_2_1, World.cell?_setCell_other]; rfl) rfl (push_none (by go_grown))
  obtain ⟨i0, hi, hz0, hz1, hz2⟩ := info_parts infoStr
  obtain ⟨T, hT⟩ : ∃ T : Int, (if zs.length = 0 then 4 else timer) = T := ⟨_, rfl⟩
  cases h4 : ((zs.length : Int) == 0)
  · rw [show pushZ ⟨ep, base, zs, timer⟩ body = (⟨ep, base, zs ++ [body], T⟩, (ep, base + zs.length, body), 0) from by unfold pushZ; rw [if_neg hR', if_neg h1, if_neg (by simp; omega)]; simp only; rw [hT]]
    go_enter Try.func16, Try.ntmps16
    go_wp2_with fail
    refine (right_any ep base timer zs A zs.length c _ (reads_alloc (reads_alloc (reads_alloc hr))) hm hs).mono ?_
    rw [hR]
    rintro e w1 ⟨rfl, hb1⟩
    obtain ⟨c1, f1⟩ := bcell hb1
    have y1 := hb1.size
    try simp at y1
    have z0_0_1 : w.heap.size < w1.heap.size := by omega
    have z0_1_1 : w.heap.size + 1 < w1.heap.size := by omega
    have z0_2_1 : w.heap.size + 1 + 1 < w1.heap.size := by omega
    have k1 : Below w.heap.size w w1 := next_below (by go_grown) hb1
    go_wp2_with fail
    refine (clone_any A zs.length c zs _ ((hr.below k1).more k1.size) (by omega)).mono ?_
    rintro e w2 ⟨A2, c2', rfl, ho2, hb2⟩
    have y2 := hb2.size
    have z1 : w.heap.size < w2.heap.size := by omega
    have z2 : w.heap.size + 1 < w2.heap.size := by omega
    have z3 : w.heap.size + 1 + 1 < w2.heap.size := by omega
    have k2 : Below w.heap.size w w2 := k1.trans (hb2.mono k1.size)
    have bS1 : Blk w1 w.heap.size 31 #[.int .i64 ep, .int .i64 base, .slice A zs.length c, .int .i64 timer] := (((Blk.new w _ _).alloc _).alloc _).below hb1 (by simp; omega)
    have bR1 : Blk w1 (w.heap.size + 1) 31 #[.int .i64 0, .int .i64 0, .slice none 0 0, .int .i64 0] := ((by simpa using (Blk.new (w.alloc (.cells #[.int .i64 ep, .int .i64 base, .slice A zs.length c, .int .i64 timer] 31)) 31 #[.int .i64 0, .int .i64 0, .slice none 0 0, .int .i64 0]).alloc _ : Blk _ (w.heap.size + 1) _ _)).below hb1 (by simp)
    have bP1 : Blk w1 (w.heap.size + 1 + 1) 25 #[.int .i64 0, .int .i64 0, .string ⟨#[]⟩] := ((by simpa using (Blk.new ((w.alloc (.cells #[.int .i64 ep, .int .i64 base, .slice A zs.length c, .int .i64 timer] 31)).alloc (.cells #[.int .i64 0, .int .i64 0, .slice none 0 0, .int .i64 0] 31)) 25 #[.int .i64 0, .int .i64 0, .string ⟨#[]⟩]) : Blk _ (w.heap.size + 1 + 1) _ _)).below hb1 (by simp)
    go_wp2_with (at_builtin; refine wpList_append_any _ rfl (.tmp 37) (.tmp 39) 29 rfl w1.heap.size 9 i0 _ 1 16 Try.underlying29 hi hz0 hz1 hz2 rfl (by decide) _ _ _ rfl (ho2.alloc _) (w2.heap.size + 1) (some ⟨w2.heap.size, 0, none⟩) 1 1 [.string body] rfl ⟨rfl, fun _ => ⟨_, rfl, by simp, fun j u hu => by cases j <;> simp_all [go_sem]⟩⟩ (by simp [Value.oneCell']) (by unfold maxLen; omega) (by omega) (by simp; omega) ?_; intro v' w3 hown hgrow _; obtain ⟨g3, cap3, rfl⟩ := own_succ hown; go_loud (have hgs := hgrow.size; simp only [World.size_alloc] at hgs; have far : ∀ q, q < w1.heap.size → some q ≠ (Value.slice A2 zs.length c2').ownBlock := fun q hq e => (by have := (ho2.lt _ e.symm).1; omega); have bS := ((bS1.below hb2 z0_0_1).alloc (.cells #[.string body] 9)).grown hgrow (far _ z0_0_1); have bR := ((bR1.below hb2 z0_1_1).alloc (.cells #[.string body] 9)).grown hgrow (far _ z0_1_1); have bP := ((bP1.below hb2 z0_2_1).alloc (.cells #[.string body] 9)).grown hgrow (far _ z0_2_1); have z31 : w.heap.size < w3.heap.size := (by omega); have z32 : w.heap.size + 1 < w3.heap.size := (by omega); have z33 : w.heap.size + 1 + 1 < w3.heap.size := (by omega); have e0 : w3.cell? ⟨w.heap.size, 0, none⟩ = some (.int .i64 ep) := bS.cell 0; have e1' : w3.cell? ⟨w.heap.size, 1, none⟩ = some (.int .i64 base) := bS.cell 1; have e2' : w3.cell? ⟨w.heap.size, 2, none⟩ = some (.slice A zs.length c) := bS.cell 2; have e3 : w3.cell? ⟨w.heap.size, 3, none⟩ = some (.int .i64 timer) := bS.cell 3; have r0 : w3.cell? ⟨w.heap.size + 1, 0, none⟩ = some (.int .i64 0) := bR.cell 0; have r1 : w3.cell? ⟨w.heap.size + 1, 1, none⟩ = some (.int .i64 0) := bR.cell 1; have r2 : w3.cell? ⟨w.heap.size + 1, 2, none⟩ = some (.slice none 0 0) := bR.cell 2; have r3 : w3.cell? ⟨w.heap.size + 1, 3, none⟩ = some (.int .i64 0) := bR.cell 3; have fS := bS.frozen; have fR := bR.frozen; have k3 : Below w.heap.size w w3 := (k2.alloc k2.size _).grown hgrow (by simp; omega) (fun q hq => by have := (ho2.lt q hq).1; omega); clear c1 f1; have hss := set_set))
    generalize hW : (w3.setCell ⟨w.heap.size, 2, none⟩ (.slice (some ⟨g3, 0, none⟩) (zs.length + 1) cap3)) = W at *
    have bSW : Blk W w.heap.size 31 #[.int .i64 ep, .int .i64 base, .slice (some ⟨g3, 0, none⟩) (zs.length + 1) cap3, .int .i64 T] := by rw [← hW]; simpa [show timer = T from by rw [← hT, if_neg (by simpa using h4)]] using bS.set_ 2 (.slice (some ⟨g3, 0, none⟩) (zs.length + 1) cap3)
    have bRW : Blk W (w.heap.size + 1) 31 #[.int .i64 0, .int .i64 0, .slice none 0 0, .int .i64 0] := by rw [← hW]; exact bR.far (show w.heap.size + 1 ≠ w.heap.size by omega) _
    have bPW : Blk W (w.heap.size + 1 + 1) 25 #[.int .i64 0, .int .i64 0, .string ⟨#[]⟩] := by rw [← hW]; exact bP.far (show w.heap.size + 1 + 1 ≠ w.heap.size by omega) _
    have oW : W.ownsRow w1.heap.size 9 1 (.slice (some ⟨g3, 0, none⟩) (zs.length + 1) cap3) (zs.length + 1) (zs.map Value.string ++ [.string body]) := by rw [← hW]; exact own_setCell hown _ _ _ z0_0_1
    have kW : Below w.heap.size w W := by rw [← hW]; go_grown
    clear hW bS bR bP e0 e1' e2' e3 r0 r1 r2 r3 fS fR hown hgrow
    have g0 : W.cell? ⟨w.heap.size, 0, none⟩ = some (.int .i64 ep) := bSW.cell 0
    have g1 : W.cell? ⟨w.heap.size, 1, none⟩ = some (.int .i64 base) := bSW.cell 1
    have g2 : W.cell? ⟨w.heap.size, 2, none⟩ = some (.slice (some ⟨g3, 0, none⟩) (zs.length + 1) cap3) := bSW.cell 2
    have g3' : W.cell? ⟨w.heap.size, 3, none⟩ = some (.int .i64 T) := bSW.cell 3
    have u0 : W.cell? ⟨w.heap.size + 1, 0, none⟩ = some (.int .i64 0) := bRW.cell 0
    have u1 : W.cell? ⟨w.heap.size + 1, 1, none⟩ = some (.int .i64 0) := bRW.cell 1
    have u2 : W.cell? ⟨w.heap.size + 1, 2, none⟩ = some (.slice none 0 0) := bRW.cell 2
    have u3 : W.cell? ⟨w.heap.size + 1, 3, none⟩ = some (.int .i64 0) := bRW.cell 3
    have v0 : W.cell? ⟨w.heap.size + 1 + 1, 0, none⟩ = some (.int .i64 0) := bPW.cell 0
    have v1 : W.cell? ⟨w.heap.size + 1 + 1, 1, none⟩ = some (.int .i64 0) := bPW.cell 1
    have v2 : W.cell? ⟨w.heap.size + 1 + 1, 2, none⟩ = some (.string ⟨#[]⟩) := bPW.cell 2
    have fR := bRW.frozen
    have fP := bPW.frozen
    have zW0 := bSW.lt
    have zW1 := bRW.lt
    have zW2 := bPW.lt
    have rW := Reads.of_own oW
    have hsn : zs.map Value.string ++ [.string body] = (zs ++ [body]).map Value.string := by simp
    rw [hsn] at rW oW
    have hbi : (zs ++ [body])[zs.length]? = some body := by simp
    go_region_with (go_at_call 29; go_loud (refine (packet_any ep base T (zs ++ [body]) (some ⟨g3, 0, none⟩) (zs.length + 1) cap3 zs.length body _ ?_ hbi ⟨b1, by omega⟩ (by omega)).mono ?_; (first | exact rW | exact Reads.of_own (own_setCell (own_setCell (own_setCell (own_setCell oW _ _ _ z0_1_1) _ _ _ z0_1_1) _ _ _ z0_1_1) _ _ _ z0_1_1)); rintro e w4 ⟨rfl, hb4⟩; (first | (have ordA := True.intro; have k4 := (below_drew kW).trans (hb4.mono kW.size); have o4 := own_below (own_drew oW) hb4; have bS4 := bSW.drew.below hb4 zW0; have ss0 : w4.cell? ⟨w.heap.size, 0, none⟩ = some (.int .i64 ep) := bS4.cell 0; have ss1 : w4.cell? ⟨w.heap.size, 1, none⟩ = some (.int .i64 base) := bS4.cell 1; have ss2 : w4.cell? ⟨w.heap.size, 2, none⟩ = some (.slice (some ⟨g3, 0, none⟩) (zs.length + 1) cap3) := bS4.cell 2; have ss3 : w4.cell? ⟨w.heap.size, 3, none⟩ = some (.int .i64 T) := bS4.cell 3; have bR4 := bRW.drew.below hb4 zW1; have bP4 := bPW.drew.below hb4 zW2; have uu0 : w4.cell? ⟨w.heap.size + 1, 0, none⟩ = some (.int .i64 0) := bR4.cell 0; have uu1 : w4.cell? ⟨w.heap.size + 1, 1, none⟩ = some (.int .i64 0) := bR4.cell 1; have uu2 : w4.cell? ⟨w.heap.size + 1, 2, none⟩ = some (.slice none 0 0) := bR4.cell 2; have uu3 : w4.cell? ⟨w.heap.size + 1, 3, none⟩ = some (.int .i64 0) := bR4.cell 3) | (have ordB := True.intro; have kWd := below_drew kW; have kq : Below w.heap.size w ((((W.drew.setCell ⟨w.heap.size + 1, 0, none⟩ (.int .i64 ep)).setCell ⟨w.heap.size + 1, 1, none⟩ (.int .i64 base)).setCell ⟨w.heap.size + 1, 2, none⟩ (.slice (some ⟨g3, 0, none⟩) (zs.length + 1) cap3)).setCell ⟨w.heap.size + 1, 3, none⟩ (.int .i64 T)) := (by go_grown); have k4 := kq.trans (hb4.mono kq.size); have o4 := own_below (own_setCell (own_setCell (own_setCell (own_setCell (own_drew oW) _ _ _ z0_1_1) _ _ _ z0_1_1) _ _ _ z0_1_1) _ _ _ z0_1_1) hb4; have q := ((((bRW.drew.set_ 0 (.int .i64 ep)).set_ 1 (.int .i64 base)).set_ 2 (.slice (some ⟨g3, 0, none⟩) (zs.length + 1) cap3)).set_ 3 (.int .i64 T)); have bR4 := q.below hb4 q.lt; have q2 := ((((bPW.drew.far (p := ⟨w.heap.size + 1, 0, none⟩) (show w.heap.size + 1 + 1 ≠ w.heap.size + 1 by omega) (.int .i64 ep)).far (p := ⟨w.heap.size + 1, 1, none⟩) (show w.heap.size + 1 + 1 ≠ w.heap.size + 1 by omega) (.int .i64 base)).far (p := ⟨w.heap.size + 1, 2, none⟩) (show w.heap.size + 1 + 1 ≠ w.heap.size + 1 by omega) (.slice (some ⟨g3, 0, none⟩) (zs.length + 1) cap3)).far (p := ⟨w.heap.size + 1, 3, none⟩) (show w.heap.size + 1 + 1 ≠ w.heap.size + 1 by omega) (.int .i64 T)); have bP4 := q2.below hb4 q2.lt; have uu0 : w4.cell? ⟨w.heap.size + 1, 0, none⟩ = some (.int .i64 ep) := bR4.cell 0; have uu1 : w4.cell? ⟨w.heap.size + 1, 1, none⟩ = some (.int .i64 base) := bR4.cell 1; have uu2 : w4.cell? ⟨w.heap.size + 1, 2, none⟩ = some (.slice (some ⟨g3, 0, none⟩) (zs.length + 1) cap3) := bR4.cell 2; have uu3 : w4.cell? ⟨w.heap.size + 1, 3, none⟩ = some (.int .i64 T) := bR4.cell 3)); have vv0 : w4.cell? ⟨w.heap.size + 1 + 1, 0, none⟩ = some (.int .i64 0) := bP4.cell 0; have vv1 : w4.cell? ⟨w.heap.size + 1 + 1, 1, none⟩ = some (.int .i64 0) := bP4.cell 1; have vv2 : w4.cell? ⟨w.heap.size + 1 + 1, 2, none⟩ = some (.string ⟨#[]⟩) := bP4.cell 2; have fR4 := bR4.frozen; have fP4 := bP4.frozen; have y4 := hb4.size))
    all_goals
      have hNN : (zs ++ [body]).length = zs.length + 1 := by simp
      go_wp2
      refine bodyPost_ret (v := .tuple #[.agg #[.int .i64 ep, .int .i64 base, .slice (some ⟨g3, 0, none⟩) (zs.length + 1) cap3, .int .i64 T], .agg #[.int .i64 ep, .int .i64 (base + zs.length), .string body], .int .i64 0]) (by simp [results, Try.results16, go_sem, uu0, uu1, uu2, uu3, vv0, vv1, vv2, World.cell?_setCell_other]) rfl ?_
      first
        | (have := ordA; exact push_new hNN (own_setCell (own_setCell (own_setCell (own_setCell (own_setCell (own_setCell (own_setCell o4 _ _ _ z0_1_1) _ _ _ z0_1_1) _ _ _ z0_1_1) _ _ _ z0_1_1) _ _ _ z0_2_1) _ _ _ z0_2_1) _ _ _ z0_2_1) (Nat.le_of_lt z0_0_1) (by go_grown))
        | (have := ordB; exact push_new hNN (own_setCell (own_setCell (own_setCell o4 _ _ _ z0_2_1) _ _ _ z0_2_1) _ _ _ z0_2_1) (Nat.le_of_lt z0_0_1) (by go_grown))
  · rw [show pushZ ⟨ep, base, zs, timer⟩ body = (⟨ep, base, zs ++ [body], T⟩, (ep, base + zs.length, body), 0) from by unfold pushZ; rw [if_neg hR', if_neg h1, if_neg (by simp; omega)]; simp only; rw [hT]]
    go_enter Try.func16, Try.ntmps16
    go_wp2_with fail
    refine (right_any ep base timer zs A zs.length c _ (reads_alloc (reads_alloc (reads_alloc hr))) hm hs).mono ?_
    rw [hR]
    rintro e w1 ⟨rfl, hb1⟩
    obtain ⟨c1, f1⟩ := bcell hb1
    have y1 := hb1.size
    try simp at y1
    have z0_0_1 : w.heap.size < w1.heap.size := by omega
    have z0_1_1 : w.heap.size + 1 < w1.heap.size := by omega
    have z0_2_1 : w.heap.size + 1 + 1 < w1.heap.size := by omega
    have k1 : Below w.heap.size w w1 := next_below (by go_grown) hb1
    go_wp2_with fail
    refine (clone_any A zs.length c zs _ ((hr.below k1).more k1.size) (by omega)).mono ?_
    rintro e w2 ⟨A2, c2', rfl, ho2, hb2⟩
    have y2 := hb2.size
    have z1 : w.heap.size < w2.heap.size := by omega
    have z2 : w.heap.size + 1 < w2.heap.size := by omega
    have z3 : w.heap.size + 1 + 1 < w2.heap.size := by omega
    have k2 : Below w.heap.size w w2 := k1.trans (hb2.mono k1.size)
    have bS1 : Blk w1 w.heap.size 31 #[.int .i64 ep, .int .i64 base, .slice A zs.length c, .int .i64 timer] := (((Blk.new w _ _).alloc _).alloc _).below hb1 (by simp; omega)
    have bR1 : Blk w1 (w.heap.size + 1) 31 #[.int .i64 0, .int .i64 0, .slice none 0 0, .int .i64 0] := ((by simpa using (Blk.new (w.alloc (.cells #[.int .i64 ep, .int .i64 base, .slice A zs.length c, .int .i64 timer] 31)) 31 #[.int .i64 0, .int .i64 0, .slice none 0 0, .int .i64 0]).alloc _ : Blk _ (w.heap.size + 1) _ _)).below hb1 (by simp)
    have bP1 : Blk w1 (w.heap.size + 1 + 1) 25 #[.int .i64 0, .int .i64 0, .string ⟨#[]⟩] := ((by simpa using (Blk.new ((w.alloc (.cells #[.int .i64 ep, .int .i64 base, .slice A zs.length c, .int .i64 timer] 31)).alloc (.cells #[.int .i64 0, .int .i64 0, .slice none 0 0, .int .i64 0] 31)) 25 #[.int .i64 0, .int .i64 0, .string ⟨#[]⟩]) : Blk _ (w.heap.size + 1 + 1) _ _)).below hb1 (by simp)
    go_wp2_with (at_builtin; refine wpList_append_any _ rfl (.tmp 37) (.tmp 39) 29 rfl w1.heap.size 9 i0 _ 1 16 Try.underlying29 hi hz0 hz1 hz2 rfl (by decide) _ _ _ rfl (ho2.alloc _) (w2.heap.size + 1) (some ⟨w2.heap.size, 0, none⟩) 1 1 [.string body] rfl ⟨rfl, fun _ => ⟨_, rfl, by simp, fun j u hu => by cases j <;> simp_all [go_sem]⟩⟩ (by simp [Value.oneCell']) (by unfold maxLen; omega) (by omega) (by simp; omega) ?_; intro v' w3 hown hgrow _; obtain ⟨g3, cap3, rfl⟩ := own_succ hown; go_loud (have hgs := hgrow.size; simp only [World.size_alloc] at hgs; have far : ∀ q, q < w1.heap.size → some q ≠ (Value.slice A2 zs.length c2').ownBlock := fun q hq e => (by have := (ho2.lt _ e.symm).1; omega); have bS := ((bS1.below hb2 z0_0_1).alloc (.cells #[.string body] 9)).grown hgrow (far _ z0_0_1); have bR := ((bR1.below hb2 z0_1_1).alloc (.cells #[.string body] 9)).grown hgrow (far _ z0_1_1); have bP := ((bP1.below hb2 z0_2_1).alloc (.cells #[.string body] 9)).grown hgrow (far _ z0_2_1); have z31 : w.heap.size < w3.heap.size := (by omega); have z32 : w.heap.size + 1 < w3.heap.size := (by omega); have z33 : w.heap.size + 1 + 1 < w3.heap.size := (by omega); have e0 : w3.cell? ⟨w.heap.size, 0, none⟩ = some (.int .i64 ep) := bS.cell 0; have e1' : w3.cell? ⟨w.heap.size, 1, none⟩ = some (.int .i64 base) := bS.cell 1; have e2' : w3.cell? ⟨w.heap.size, 2, none⟩ = some (.slice A zs.length c) := bS.cell 2; have e3 : w3.cell? ⟨w.heap.size, 3, none⟩ = some (.int .i64 timer) := bS.cell 3; have r0 : w3.cell? ⟨w.heap.size + 1, 0, none⟩ = some (.int .i64 0) := bR.cell 0; have r1 : w3.cell? ⟨w.heap.size + 1, 1, none⟩ = some (.int .i64 0) := bR.cell 1; have r2 : w3.cell? ⟨w.heap.size + 1, 2, none⟩ = some (.slice none 0 0) := bR.cell 2; have r3 : w3.cell? ⟨w.heap.size + 1, 3, none⟩ = some (.int .i64 0) := bR.cell 3; have fS := bS.frozen; have fR := bR.frozen; have k3 : Below w.heap.size w w3 := (k2.alloc k2.size _).grown hgrow (by simp; omega) (fun q hq => by have := (ho2.lt q hq).1; omega); clear c1 f1; have hss := set_set))
    generalize hW : ((w3.setCell ⟨w.heap.size, 2, none⟩ (.slice (some ⟨g3, 0, none⟩) (zs.length + 1) cap3)).setCell ⟨w.heap.size, 3, none⟩ (.int .i64 4)) = W at *
    have bSW : Blk W w.heap.size 31 #[.int .i64 ep, .int .i64 base, .slice (some ⟨g3, 0, none⟩) (zs.length + 1) cap3, .int .i64 T] := by rw [← hW]; simpa [show T = 4 from by rw [← hT, if_pos (by simpa using h4)]] using (bS.set_ 2 (.slice (some ⟨g3, 0, none⟩) (zs.length + 1) cap3)).set_ 3 (.int .i64 4)
    have bRW : Blk W (w.heap.size + 1) 31 #[.int .i64 0, .int .i64 0, .slice none 0 0, .int .i64 0] := by rw [← hW]; exact (bR.far (show w.heap.size + 1 ≠ w.heap.size by omega) _).far (show w.heap.size + 1 ≠ w.heap.size by omega) _
    have bPW : Blk W (w.heap.size + 1 + 1) 25 #[.int .i64 0, .int .i64 0, .string ⟨#[]⟩] := by rw [← hW]; exact (bP.far (show w.heap.size + 1 + 1 ≠ w.heap.size by omega) _).far (show w.heap.size + 1 + 1 ≠ w.heap.size by omega) _
    have oW : W.ownsRow w1.heap.size 9 1 (.slice (some ⟨g3, 0, none⟩) (zs.length + 1) cap3) (zs.length + 1) (zs.map Value.string ++ [.string body]) := by rw [← hW]; exact own_setCell (own_setCell hown _ _ _ z0_0_1) _ _ _ z0_0_1
    have kW : Below w.heap.size w W := by rw [← hW]; go_grown
    clear hW bS bR bP e0 e1' e2' e3 r0 r1 r2 r3 fS fR hown hgrow
    have g0 : W.cell? ⟨w.heap.size, 0, none⟩ = some (.int .i64 ep) := bSW.cell 0
    have g1 : W.cell? ⟨w.heap.size, 1, none⟩ = some (.int .i64 base) := bSW.cell 1
    have g2 : W.cell? ⟨w.heap.size, 2, none⟩ = some (.slice (some ⟨g3, 0, none⟩) (zs.length + 1) cap3) := bSW.cell 2
    have g3' : W.cell? ⟨w.heap.size, 3, none⟩ = some (.int .i64 T) := bSW.cell 3
    have u0 : W.cell? ⟨w.heap.size + 1, 0, none⟩ = some (.int .i64 0) := bRW.cell 0
    have u1 : W.cell? ⟨w.heap.size + 1, 1, none⟩ = some (.int .i64 0) := bRW.cell 1
    have u2 : W.cell? ⟨w.heap.size + 1, 2, none⟩ = some (.slice none 0 0) := bRW.cell 2
    have u3 : W.cell? ⟨w.heap.size + 1, 3, none⟩ = some (.int .i64 0) := bRW.cell 3
    have v0 : W.cell? ⟨w.heap.size + 1 + 1, 0, none⟩ = some (.int .i64 0) := bPW.cell 0
    have v1 : W.cell? ⟨w.heap.size + 1 + 1, 1, none⟩ = some (.int .i64 0) := bPW.cell 1
    have v2 : W.cell? ⟨w.heap.size + 1 + 1, 2, none⟩ = some (.string ⟨#[]⟩) := bPW.cell 2
    have fR := bRW.frozen
    have fP := bPW.frozen
    have zW0 := bSW.lt
    have zW1 := bRW.lt
    have zW2 := bPW.lt
    have rW := Reads.of_own oW
    have hsn : zs.map Value.string ++ [.string body] = (zs ++ [body]).map Value.string := by simp
    rw [hsn] at rW oW
    have hbi : (zs ++ [body])[zs.length]? = some body := by simp
    go_region_with (go_at_call 29; go_loud (refine (packet_any ep base T (zs ++ [body]) (some ⟨g3, 0, none⟩) (zs.length + 1) cap3 zs.length body _ ?_ hbi ⟨b1, by omega⟩ (by omega)).mono ?_; (first | exact rW | exact Reads.of_own (own_setCell (own_setCell (own_setCell (own_setCell oW _ _ _ z0_1_1) _ _ _ z0_1_1) _ _ _ z0_1_1) _ _ _ z0_1_1)); rintro e w4 ⟨rfl, hb4⟩; (first | (have ordA := True.intro; have k4 := (below_drew kW).trans (hb4.mono kW.size); have o4 := own_below (own_drew oW) hb4; have bS4 := bSW.drew.below hb4 zW0; have ss0 : w4.cell? ⟨w.heap.size, 0, none⟩ = some (.int .i64 ep) := bS4.cell 0; have ss1 : w4.cell? ⟨w.heap.size, 1, none⟩ = some (.int .i64 base) := bS4.cell 1; have ss2 : w4.cell? ⟨w.heap.size, 2, none⟩ = some (.slice (some ⟨g3, 0, none⟩) (zs.length + 1) cap3) := bS4.cell 2; have ss3 : w4.cell? ⟨w.heap.size, 3, none⟩ = some (.int .i64 T) := bS4.cell 3; have bR4 := bRW.drew.below hb4 zW1; have bP4 := bPW.drew.below hb4 zW2; have uu0 : w4.cell? ⟨w.heap.size + 1, 0, none⟩ = some (.int .i64 0) := bR4.cell 0; have uu1 : w4.cell? ⟨w.heap.size + 1, 1, none⟩ = some (.int .i64 0) := bR4.cell 1; have uu2 : w4.cell? ⟨w.heap.size + 1, 2, none⟩ = some (.slice none 0 0) := bR4.cell 2; have uu3 : w4.cell? ⟨w.heap.size + 1, 3, none⟩ = some (.int .i64 0) := bR4.cell 3) | (have ordB := True.intro; have kWd := below_drew kW; have kq : Below w.heap.size w ((((W.drew.setCell ⟨w.heap.size + 1, 0, none⟩ (.int .i64 ep)).setCell ⟨w.heap.size + 1, 1, none⟩ (.int .i64 base)).setCell ⟨w.heap.size + 1, 2, none⟩ (.slice (some ⟨g3, 0, none⟩) (zs.length + 1) cap3)).setCell ⟨w.heap.size + 1, 3, none⟩ (.int .i64 T)) := (by go_grown); have k4 := kq.trans (hb4.mono kq.size); have o4 := own_below (own_setCell (own_setCell (own_setCell (own_setCell (own_drew oW) _ _ _ z0_1_1) _ _ _ z0_1_1) _ _ _ z0_1_1) _ _ _ z0_1_1) hb4; have q := ((((bRW.drew.set_ 0 (.int .i64 ep)).set_ 1 (.int .i64 base)).set_ 2 (.slice (some ⟨g3, 0, none⟩) (zs.length + 1) cap3)).set_ 3 (.int .i64 T)); have bR4 := q.below hb4 q.lt; have q2 := ((((bPW.drew.far (p := ⟨w.heap.size + 1, 0, none⟩) (show w.heap.size + 1 + 1 ≠ w.heap.size + 1 by omega) (.int .i64 ep)).far (p := ⟨w.heap.size + 1, 1, none⟩) (show w.heap.size + 1 + 1 ≠ w.heap.size + 1 by omega) (.int .i64 base)).far (p := ⟨w.heap.size + 1, 2, none⟩) (show w.heap.size + 1 + 1 ≠ w.heap.size + 1 by omega) (.slice (some ⟨g3, 0, none⟩) (zs.length + 1) cap3)).far (p := ⟨w.heap.size + 1, 3, none⟩) (show w.heap.size + 1 + 1 ≠ w.heap.size + 1 by omega) (.int .i64 T)); have bP4 := q2.below hb4 q2.lt; have uu0 : w4.cell? ⟨w.heap.size + 1, 0, none⟩ = some (.int .i64 ep) := bR4.cell 0; have uu1 : w4.cell? ⟨w.heap.size + 1, 1, none⟩ = some (.int .i64 base) := bR4.cell 1; have uu2 : w4.cell? ⟨w.heap.size + 1, 2, none⟩ = some (.slice (some ⟨g3, 0, none⟩) (zs.length + 1) cap3) := bR4.cell 2; have uu3 : w4.cell? ⟨w.heap.size + 1, 3, none⟩ = some (.int .i64 T) := bR4.cell 3)); have vv0 : w4.cell? ⟨w.heap.size + 1 + 1, 0, none⟩ = some (.int .i64 0) := bP4.cell 0; have vv1 : w4.cell? ⟨w.heap.size + 1 + 1, 1, none⟩ = some (.int .i64 0) := bP4.cell 1; have vv2 : w4.cell? ⟨w.heap.size + 1 + 1, 2, none⟩ = some (.string ⟨#[]⟩) := bP4.cell 2; have fR4 := bR4.frozen; have fP4 := bP4.frozen; have y4 := hb4.size))
    all_goals
      have hNN : (zs ++ [body]).length = zs.length + 1 := by simp
      go_wp2
      refine bodyPost_ret (v := .tuple #[.agg #[.int .i64 ep, .int .i64 base, .slice (some ⟨g3, 0, none⟩) (zs.length + 1) cap3, .int .i64 T], .agg #[.int .i64 ep, .int .i64 (base + zs.length), .string body], .int .i64 0]) (by simp [results, Try.results16, go_sem, uu0, uu1, uu2, uu3, vv0, vv1, vv2, World.cell?_setCell_other]) rfl ?_
      first
        | (have := ordA; exact push_new hNN (own_setCell (own_setCell (own_setCell (own_setCell (own_setCell (own_setCell (own_setCell o4 _ _ _ z0_1_1) _ _ _ z0_1_1) _ _ _ z0_1_1) _ _ _ z0_1_1) _ _ _ z0_2_1) _ _ _ z0_2_1) _ _ _ z0_2_1) (Nat.le_of_lt z0_0_1) (by go_grown))
        | (have := ordB; exact push_new hNN (own_setCell (own_setCell (own_setCell o4 _ _ _ z0_2_1) _ _ _ z0_2_1) _ _ _ z0_2_1) (Nat.le_of_lt z0_0_1) (by go_grown))

end Go.Proofs.Ytplodggiifachaa
