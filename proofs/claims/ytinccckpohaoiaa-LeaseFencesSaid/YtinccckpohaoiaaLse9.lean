/- Walks of Renew and Give, of package lease. -/
import Derived.Test.YtinccckpohaoiaaLse8
namespace Go.Proofs.Ytinccckpohaoiaa
open Go.RowKit
set_option linter.unusedVariables false
set_option linter.unusedSimpArgs false

/-- What renewing makes of a table, and the error's number. -/
def renewZ (ls : List Lse) (last g tok now long : Int) : (List Lse × Int) × Int :=
  if hasT ls last g = false then (([], 0), 1)
  else if fencedB ls last g tok = true ∨ countsB now (lseAt ls g) = false then (([], 0), 160)
  else ((ls.set g.toNat ⟨(lseAt ls g).own, (lseAt ls g).tok, max (lseAt ls g).til (addZ now long)⟩, last), 0)
/-- What giving back makes of a table, and the error's number. -/
def giveZ (ls : List Lse) (last g tok : Int) : (List Lse × Int) × Int :=
  if hasT ls last g = false then (([], 0), 1)
  else if fencedB ls last g tok = true then (([], 0), 160)
  else ((ls.set g.toNat ⟨0, tok, 0⟩, last), 0)
theorem new_none {w w' : World} {err : Int} (hB : Below w.heap.size w w') : NewPost (([], 0), err) w (.returned (.tuple #[.agg #[.slice none 0 0, .int .i64 0], .int .i64 err])) w' :=
  ⟨none, 0, rfl, Reads.none_, by simp, fun a e => (by cases e), hB⟩
theorem new_new {w w' : World} {A : Option Addr} {n c : Nat} {last err : Int} {ls : List Lse} (hn : ls.length = n) (hr : Reads w' w'.heap.size 3 A n (flat ls)) (hc : n ≤ c) (hA : ∀ ad, A = some ad → w.heap.size ≤ ad.block) (hB : Below w.heap.size w w') :
    NewPost ((ls, last), err) w (.returned (.tuple #[.agg #[.slice A n c, .int .i64 last], .int .i64 err])) w' := by
  subst hn
  exact ⟨A, c, rfl, hr, hc, hA, hB⟩

set_option maxHeartbeats 4000000 in
theorem renew_ok (A : Option Addr) (n c G : Nat) (last tok now long ow tk ti : Int) (ls : List Lse) (w : World) (hr : Reads w w.heap.size 3 A n (flat ls)) (hm : n ≤ 9223372036854775807) (hc : n ≤ c)
    (HR : Hid (hasT ls last G = true)) (HF : Hid (fencedB ls last G tok = false)) (HL : Hid (ls.length = n)) (hG : G < n) (h32 : n ≤ 32) {hG' : G < ls.length} (hx : ls[G] = ⟨ow, tk, ti⟩) (HC : Hid ((!(ow == 0) && decide (clampZ now < ti)) = true)) :
    Calls Try.prog 20 #[.agg #[.slice A n c, .int .i64 last], .int .i64 G, .int .i64 tok, .int .i64 now, .int .i64 long] w (NewPost ((ls.set G ⟨ow, tk, max ti (addZ now long)⟩, last), 0) w) := by
  go_enter Try.func20, Try.ntmps20
  go_wp2_with (go_at_call 30; refine (leaseAt_any _ _).mono ?_; rintro e w' ⟨rfl, rfl⟩)
  refine (has_any A n c last G ls _ (reads_alloc (reads_alloc hr)) hm hc).mono ?_
  rw [HR.out]
  rintro e w1 ⟨rfl, hb1⟩
  obtain ⟨c1, f1⟩ := bcell hb1
  have y1 := hb1.size
  try simp at y1
  have z0_0_1 : w.heap.size < w1.heap.size := by omega
  have z0_1_1 : w.heap.size + 1 < w1.heap.size := by omega
  have k1 : Below w.heap.size w w1 := next_below (by go_grown) hb1
  go_wp2_with fail
  refine (fenced_any A n c last G tok ls _ ((hr.below k1).more k1.size) hm hc).mono ?_
  rw [HF.out]
  rintro e w2 ⟨rfl, hb2⟩
  obtain ⟨c2, f2⟩ := bcell hb2
  have y2 := hb2.size
  try simp at y2
  have z0_0_2 : w.heap.size < w2.heap.size := by omega
  have z0_1_2 : w.heap.size + 1 < w2.heap.size := by omega
  have k2 : Below w.heap.size w w2 := next_below (by go_grown) hb2
  obtain ⟨ad, hl, rfl, hbk, d0, d1, d2⟩ := lse_at ((hr.below k2).more k2.size) hG
  rw [hx] at d0 d1 d2
  simp only at d0 d1 d2
  go_wp2_with fail
  refine (counts_any (clampZ now) ow tk ti _).mono ?_
  rw [HC.out]
  rintro e w3 ⟨rfl, hb3⟩
  obtain ⟨c3, f3⟩ := bcell hb3
  have y3 := hb3.size
  try simp at y3
  have z0_0_3 : w.heap.size < w3.heap.size := by omega
  have z0_1_3 : w.heap.size + 1 < w3.heap.size := by omega
  have k3 : Below w.heap.size w w3 := next_below (by go_grown) hb3
  obtain ⟨M, hM⟩ : ∃ M, ls.set G ⟨ow, tk, max ti (addZ now long)⟩ = M := ⟨_, rfl⟩
  have HML := Lib.hid (show M.length = n from by rw [← hM, List.length_set]; exact HL.out)
  have bT : Blk w3 w.heap.size 24 #[.slice (some ad) n c, .int .i64 last] := ((((Blk.new w _ _).alloc _).below hb1 (by simp; omega)).below hb2 z0_0_1).below hb3 z0_0_2
  have bO : Blk w3 (w.heap.size + 1) 24 #[.slice none 0 0, .int .i64 0] := (((by simpa using Blk.new (w.alloc (.cells #[.slice (some ad) n c, .int .i64 last] 24)) 24 #[.slice none 0 0, .int .i64 0] : Blk _ (w.heap.size + 1) _ _).below hb1 (by simp)).below hb2 z0_1_1).below hb3 z0_1_2
  have rdW := (hr.below k3).more k3.size
  obtain ⟨ad', hl', ea, _, d0', d1', d2'⟩ := lse_at rdW hG
  obtain rfl := Option.some.inj ea
  rw [hx] at d0' d1' d2'
  simp only at d0' d1' d2'
  clear c1 f1 c2 f2 c3 f3 d0 d1 d2 ea
  have t0 : w3.cell? ⟨w.heap.size, 0, none⟩ = some (.slice (some ad) n c) := bT.cell 0
  have t1 : w3.cell? ⟨w.heap.size, 1, none⟩ = some (.int .i64 last) := bT.cell 1
  have lT := bT.lt
  have lO := bO.lt
  rcases Int.lt_or_le ti (addZ now long) with hlt | hlt
  · rw [show max ti (addZ now long) = addZ now long from by omega] at hM
    go_wp2_with fail
    go_region_with (go_at_call 34; refine (add_any _ _ _).mono ?_; rintro e w' ⟨rfl, rfl⟩)
    all_goals
      go_wp2_with fail
      have bL := Blk.new w3 40 #[.int .i64 ow, .int .i64 tk, .int .i64 (addZ now long)]
      have bT3 := (bT.alloc (.cells #[.int .i64 ow, .int .i64 tk, .int .i64 (addZ now long)] 40)).drew
      have bO3 := (bO.alloc (.cells #[.int .i64 ow, .int .i64 tk, .int .i64 (addZ now long)] 40)).drew
      have rd3 : Reads (w3.alloc (.cells #[.int .i64 ow, .int .i64 tk, .int .i64 (addZ now long)] 40)).drew (w3.alloc (.cells #[.int .i64 ow, .int .i64 tk, .int .i64 (addZ now long)] 40)).drew.heap.size 3 (some ad) n (flat ls) := (reads_alloc (o := .cells #[.int .i64 ow, .int .i64 tk, .int .i64 (addZ now long)] 40) rdW).drew
      have kk3 := below_drew (k3.alloc k3.size (.cells #[.int .i64 ow, .int .i64 tk, .int .i64 (addZ now long)] 40))
      clear t0 t1 d0' d1' d2'
      generalize (w3.alloc (.cells #[.int .i64 ow, .int .i64 tk, .int .i64 (addZ now long)] 40)).drew = V at *
      have lT3 := bT3.lt
      have lO3 := bO3.lt
      refine (with_any (some ad) n c G last ow tk ((addZ now long)) ls _ (rd3) (by omega) hG).mono ?_
      rw [hM]
      rintro e w4 ⟨A4, c4, rfl, rd4, hc4, hf4, hb4⟩
      have bO4 := bO3.below hb4 lO3
      have oo0 : w4.cell? ⟨w.heap.size + 1, 0, none⟩ = some (.slice none 0 0) := bO4.cell 0
      have oo1 : w4.cell? ⟨w.heap.size + 1, 1, none⟩ = some (.int .i64 0) := bO4.cell 1
      have fO4 := bO4.frozen
      have k4 := kk3.trans (hb4.mono kk3.size)
      have hne := fresh_of (w := w) (W := V) (b := w.heap.size + 1) hf4 lO3
      have hfr := fresh_le (w := w) (W := V) hf4 kk3.size
      clear hb4 bT bO hb1 hb2 hb3
      go_wp2
      exact bodyPost_ret (v := .tuple #[.agg #[.slice A4 n c4, .int .i64 last], .int .i64 0]) (by simp [results, Try.results20, go_sem, oo0, oo1, World.cell?_setCell_other]) rfl (by
        rw [show max ti (addZ now long) = (addZ now long) from by omega, hM]
        exact new_new HML.out ((reads_far' (q := ⟨w.heap.size + 1, 1, none⟩) (reads_far' (q := ⟨w.heap.size + 1, 0, none⟩) rd4 hne _) hne _).more (by simp)) hc4 hfr (by go_grown))
  · rw [show max ti (addZ now long) = ti from by omega] at hM
    go_wp2_with fail
    go_region_with (go_at_call 34; refine (add_any _ _ _).mono ?_; rintro e w' ⟨rfl, rfl⟩)
    all_goals
      go_wp2_with fail
      have bL := Blk.new w3 40 #[.int .i64 ow, .int .i64 tk, .int .i64 ti]
      have bT3 := (bT.alloc (.cells #[.int .i64 ow, .int .i64 tk, .int .i64 ti] 40)).drew
      have bO3 := (bO.alloc (.cells #[.int .i64 ow, .int .i64 tk, .int .i64 ti] 40)).drew
      have rd3 : Reads (w3.alloc (.cells #[.int .i64 ow, .int .i64 tk, .int .i64 ti] 40)).drew (w3.alloc (.cells #[.int .i64 ow, .int .i64 tk, .int .i64 ti] 40)).drew.heap.size 3 (some ad) n (flat ls) := (reads_alloc (o := .cells #[.int .i64 ow, .int .i64 tk, .int .i64 ti] 40) rdW).drew
      have kk3 := below_drew (k3.alloc k3.size (.cells #[.int .i64 ow, .int .i64 tk, .int .i64 ti] 40))
      clear t0 t1 d0' d1' d2'
      generalize (w3.alloc (.cells #[.int .i64 ow, .int .i64 tk, .int .i64 ti] 40)).drew = V at *
      have lT3 := bT3.lt
      have lO3 := bO3.lt
      refine (with_any (some ad) n c G last ow tk (ti) ls _ (rd3) (by omega) hG).mono ?_
      rw [hM]
      rintro e w4 ⟨A4, c4, rfl, rd4, hc4, hf4, hb4⟩
      have bO4 := bO3.below hb4 lO3
      have oo0 : w4.cell? ⟨w.heap.size + 1, 0, none⟩ = some (.slice none 0 0) := bO4.cell 0
      have oo1 : w4.cell? ⟨w.heap.size + 1, 1, none⟩ = some (.int .i64 0) := bO4.cell 1
      have fO4 := bO4.frozen
      have k4 := kk3.trans (hb4.mono kk3.size)
      have hne := fresh_of (w := w) (W := V) (b := w.heap.size + 1) hf4 lO3
      have hfr := fresh_le (w := w) (W := V) hf4 kk3.size
      clear hb4 bT bO hb1 hb2 hb3
      go_wp2
      exact bodyPost_ret (v := .tuple #[.agg #[.slice A4 n c4, .int .i64 last], .int .i64 0]) (by simp [results, Try.results20, go_sem, oo0, oo1, World.cell?_setCell_other]) rfl (by
        rw [show max ti (addZ now long) = ti from by omega, hM]
        exact new_new HML.out ((reads_far' (q := ⟨w.heap.size + 1, 1, none⟩) (reads_far' (q := ⟨w.heap.size + 1, 0, none⟩) rd4 hne _) hne _).more (by simp)) hc4 hfr (by go_grown))

set_option maxHeartbeats 4000000 in
theorem renew_any (A : Option Addr) (n c : Nat) (last g tok now long : Int) (ls : List Lse) (w : World) (hr : Reads w w.heap.size 3 A n (flat ls)) (hm : n ≤ 9223372036854775807) (hc : n ≤ c) :
    Calls Try.prog 20 #[.agg #[.slice A n c, .int .i64 last], .int .i64 g, .int .i64 tok, .int .i64 now, .int .i64 long] w (NewPost (renewZ ls last g tok now long) w) := by
  have hlen := lse_len hr
  obtain ⟨r, hR⟩ : ∃ r, hasT ls last g = r := ⟨_, rfl⟩
  have HR := Lib.hid hR
  cases r
  · clear hlen
    rw [show renewZ ls last g tok now long = (([], 0), 1) from by unfold renewZ; rw [if_pos hR]]
    clear hR
    go_enter Try.func20, Try.ntmps20
    go_wp2_with (go_at_call 30; refine (leaseAt_any _ _).mono ?_; rintro e w' ⟨rfl, rfl⟩)
    refine (has_any A n c last g ls _ (reads_alloc (reads_alloc hr)) hm hc).mono ?_
    rw [HR.out]
    rintro e w1 ⟨rfl, hb1⟩
    obtain ⟨c1, f1⟩ := bcell hb1
    have y1 := hb1.size
    try simp at y1
    have z0_0_1 : w.heap.size < w1.heap.size := by omega
    have z0_1_1 : w.heap.size + 1 < w1.heap.size := by omega
    have k1 : Below w.heap.size w w1 := next_below (by go_grown) hb1
    go_wp2
    exact bodyPost_ret (v := .tuple #[.agg #[.slice none 0 0, .int .i64 0], .int .i64 1]) (by simp [results, Try.results20, go_sem, c1, f1, z0_0_1, z0_1_1, World.cell?_setCell_other]) rfl (new_none (by go_grown))
  have hif : ¬ hasT ls last g = false := by rw [hR]; simp
  obtain ⟨G, rfl, hG, h32, hright⟩ := hasT_elim hR
  obtain ⟨f, hF⟩ : ∃ f, fencedB ls last G tok = f := ⟨_, rfl⟩
  have HF := Lib.hid hF
  cases f
  rotate_left
  · clear hlen
    rw [show renewZ ls last G tok now long = (([], 0), 160) from by unfold renewZ; rw [if_neg hif, if_pos (.inl hF)]]
    clear hR hF hif
    go_enter Try.func20, Try.ntmps20
    go_wp2_with (go_at_call 30; refine (leaseAt_any _ _).mono ?_; rintro e w' ⟨rfl, rfl⟩)
    refine (has_any A n c last G ls _ (reads_alloc (reads_alloc hr)) hm hc).mono ?_
    rw [HR.out]
    rintro e w1 ⟨rfl, hb1⟩
    obtain ⟨c1, f1⟩ := bcell hb1
    have y1 := hb1.size
    try simp at y1
    have z0_0_1 : w.heap.size < w1.heap.size := by omega
    have z0_1_1 : w.heap.size + 1 < w1.heap.size := by omega
    have k1 : Below w.heap.size w w1 := next_below (by go_grown) hb1
    go_wp2_with fail
    refine (fenced_any A n c last G tok ls _ ((hr.below k1).more k1.size) hm hc).mono ?_
    rw [HF.out]
    rintro e w2 ⟨rfl, hb2⟩
    obtain ⟨c2, f2⟩ := bcell hb2
    have y2 := hb2.size
    try simp at y2
    have z0_0_2 : w.heap.size < w2.heap.size := by omega
    have z0_1_2 : w.heap.size + 1 < w2.heap.size := by omega
    have k2 : Below w.heap.size w w2 := next_below (by go_grown) hb2
    go_wp2
    exact bodyPost_ret (v := .tuple #[.agg #[.slice none 0 0, .int .i64 0], .int .i64 160]) (by simp [results, Try.results20, go_sem, c1, f1, c2, f2, z0_0_1, z0_1_1, z0_0_2, z0_1_2, World.cell?_setCell_other]) rfl (new_none (by go_grown))
  have hZ : renewZ ls last G tok now long = if countsB now ls[G] = false then (([], 0), 160) else ((ls.set G ⟨ls[G].own, ls[G].tok, max ls[G].til (addZ now long)⟩, last), 0) := by
    unfold renewZ
    rw [if_neg hif, lseAt_nat hG, Int.toNat_natCast, hF]
    simp
  have hG2 := hG
  rw [hlen] at hG h32
  have HL := Lib.hid hlen
  rw [hZ]
  clear hZ hif hlen hR hF
  obtain ⟨⟨ow, tk, ti⟩, hx⟩ : ∃ x, ls[G] = x := ⟨_, rfl⟩
  rw [hx]
  obtain ⟨q, hq⟩ : ∃ q, countsB now ⟨ow, tk, ti⟩ = q := ⟨_, rfl⟩
  have HC := Lib.hid (show (!(ow == 0) && decide (clampZ now < ti)) = q from hq)
  rw [hq]
  cases q
  · rw [if_pos rfl]
    clear hq
    go_enter Try.func20, Try.ntmps20
    go_wp2_with (go_at_call 30; refine (leaseAt_any _ _).mono ?_; rintro e w' ⟨rfl, rfl⟩)
    refine (has_any A n c last G ls _ (reads_alloc (reads_alloc hr)) hm hc).mono ?_
    rw [HR.out]
    rintro e w1 ⟨rfl, hb1⟩
    obtain ⟨c1, f1⟩ := bcell hb1
    have y1 := hb1.size
    try simp at y1
    have z0_0_1 : w.heap.size < w1.heap.size := by omega
    have z0_1_1 : w.heap.size + 1 < w1.heap.size := by omega
    have k1 : Below w.heap.size w w1 := next_below (by go_grown) hb1
    go_wp2_with fail
    refine (fenced_any A n c last G tok ls _ ((hr.below k1).more k1.size) hm hc).mono ?_
    rw [HF.out]
    rintro e w2 ⟨rfl, hb2⟩
    obtain ⟨c2, f2⟩ := bcell hb2
    have y2 := hb2.size
    try simp at y2
    have z0_0_2 : w.heap.size < w2.heap.size := by omega
    have z0_1_2 : w.heap.size + 1 < w2.heap.size := by omega
    have k2 : Below w.heap.size w w2 := next_below (by go_grown) hb2
    obtain ⟨ad, hl, rfl, hbk, d0, d1, d2⟩ := lse_at ((hr.below k2).more k2.size) hG
    rw [hx] at d0 d1 d2
    simp only at d0 d1 d2
    go_wp2_with fail
    refine (counts_any (clampZ now) ow tk ti _).mono ?_
    rw [HC.out]
    rintro e w3 ⟨rfl, hb3⟩
    obtain ⟨c3, f3⟩ := bcell hb3
    have y3 := hb3.size
    try simp at y3
    have z0_0_3 : w.heap.size < w3.heap.size := by omega
    have z0_1_3 : w.heap.size + 1 < w3.heap.size := by omega
    have k3 : Below w.heap.size w w3 := next_below (by go_grown) hb3
    go_wp2
    exact bodyPost_ret (v := .tuple #[.agg #[.slice none 0 0, .int .i64 0], .int .i64 160]) (by simp [results, Try.results20, go_sem, c1, f1, c2, f2, c3, f3, z0_0_1, z0_1_1, z0_0_2, z0_1_2, z0_0_3, z0_1_3, World.cell?_setCell_other]) rfl (new_none (by go_grown))
  · rw [if_neg (by simp)]
    exact renew_ok A n c G last tok now long ow tk ti ls w hr hm hc HR HF HL hG h32 hx HC

set_option maxHeartbeats 4000000 in
theorem give_any (A : Option Addr) (n c : Nat) (last g tok : Int) (ls : List Lse) (w : World) (hr : Reads w w.heap.size 3 A n (flat ls)) (hm : n ≤ 9223372036854775807) (hc : n ≤ c) :
    Calls Try.prog 24 #[.agg #[.slice A n c, .int .i64 last], .int .i64 g, .int .i64 tok] w (NewPost (giveZ ls last g tok) w) := by
  have hlen := lse_len hr
  obtain ⟨r, hR⟩ : ∃ r, hasT ls last g = r := ⟨_, rfl⟩
  have HR := Lib.hid hR
  cases r
  · clear hlen
    rw [show giveZ ls last g tok = (([], 0), 1) from by unfold giveZ; rw [if_pos hR]]
    clear hR
    go_enter Try.func24, Try.ntmps24
    go_wp2_with fail
    refine (has_any A n c last g ls _ (reads_alloc (reads_alloc hr)) hm hc).mono ?_
    rw [HR.out]
    rintro e w1 ⟨rfl, hb1⟩
    obtain ⟨c1, f1⟩ := bcell hb1
    have y1 := hb1.size
    try simp at y1
    have z0_0_1 : w.heap.size < w1.heap.size := by omega
    have z0_1_1 : w.heap.size + 1 < w1.heap.size := by omega
    have k1 : Below w.heap.size w w1 := next_below (by go_grown) hb1
    go_wp2
    exact bodyPost_ret (v := .tuple #[.agg #[.slice none 0 0, .int .i64 0], .int .i64 1]) (by simp [results, Try.results24, go_sem, c1, f1, z0_0_1, z0_1_1, World.cell?_setCell_other]) rfl (new_none (by go_grown))
  have hif : ¬ hasT ls last g = false := by rw [hR]; simp
  obtain ⟨G, rfl, hG, h32, hright⟩ := hasT_elim hR
  obtain ⟨f, hF⟩ : ∃ f, fencedB ls last G tok = f := ⟨_, rfl⟩
  have HF := Lib.hid hF
  cases f
  rotate_left
  · clear hlen
    rw [show giveZ ls last G tok = (([], 0), 160) from by unfold giveZ; rw [if_neg hif, if_pos hF]]
    clear hR hF hif
    go_enter Try.func24, Try.ntmps24
    go_wp2_with fail
    refine (has_any A n c last G ls _ (reads_alloc (reads_alloc hr)) hm hc).mono ?_
    rw [HR.out]
    rintro e w1 ⟨rfl, hb1⟩
    obtain ⟨c1, f1⟩ := bcell hb1
    have y1 := hb1.size
    try simp at y1
    have z0_0_1 : w.heap.size < w1.heap.size := by omega
    have z0_1_1 : w.heap.size + 1 < w1.heap.size := by omega
    have k1 : Below w.heap.size w w1 := next_below (by go_grown) hb1
    go_wp2_with fail
    refine (fenced_any A n c last G tok ls _ ((hr.below k1).more k1.size) hm hc).mono ?_
    rw [HF.out]
    rintro e w2 ⟨rfl, hb2⟩
    obtain ⟨c2, f2⟩ := bcell hb2
    have y2 := hb2.size
    try simp at y2
    have z0_0_2 : w.heap.size < w2.heap.size := by omega
    have z0_1_2 : w.heap.size + 1 < w2.heap.size := by omega
    have k2 : Below w.heap.size w w2 := next_below (by go_grown) hb2
    go_wp2
    exact bodyPost_ret (v := .tuple #[.agg #[.slice none 0 0, .int .i64 0], .int .i64 160]) (by simp [results, Try.results24, go_sem, c1, f1, c2, f2, z0_0_1, z0_1_1, z0_0_2, z0_1_2, World.cell?_setCell_other]) rfl (new_none (by go_grown))
  · rw [show giveZ ls last G tok = ((ls.set G ⟨0, tok, 0⟩, last), 0) from by unfold giveZ; rw [if_neg hif, hF, if_neg (by simp), Int.toNat_natCast]]
    rw [hlen] at hG h32
    have HL := Lib.hid hlen
    clear hif hlen hR hF
    obtain ⟨M, hM⟩ : ∃ M, ls.set G ⟨0, tok, 0⟩ = M := ⟨_, rfl⟩
    have HML := Lib.hid (show M.length = n from by rw [← hM, List.length_set]; exact HL.out)
    go_enter Try.func24, Try.ntmps24
    go_wp2_with fail
    refine (has_any A n c last G ls _ (reads_alloc (reads_alloc hr)) hm hc).mono ?_
    rw [HR.out]
    rintro e w1 ⟨rfl, hb1⟩
    obtain ⟨c1, f1⟩ := bcell hb1
    have y1 := hb1.size
    try simp at y1
    have z0_0_1 : w.heap.size < w1.heap.size := by omega
    have z0_1_1 : w.heap.size + 1 < w1.heap.size := by omega
    have k1 : Below w.heap.size w w1 := next_below (by go_grown) hb1
    go_wp2_with fail
    refine (fenced_any A n c last G tok ls _ ((hr.below k1).more k1.size) hm hc).mono ?_
    rw [HF.out]
    rintro e w2 ⟨rfl, hb2⟩
    obtain ⟨c2, f2⟩ := bcell hb2
    have y2 := hb2.size
    try simp at y2
    have z0_0_2 : w.heap.size < w2.heap.size := by omega
    have z0_1_2 : w.heap.size + 1 < w2.heap.size := by omega
    have k2 : Below w.heap.size w w2 := next_below (by go_grown) hb2
    have bO : Blk w2 (w.heap.size + 1) 24 #[.slice none 0 0, .int .i64 0] := ((by simpa using Blk.new (w.alloc (.cells #[.slice A n c, .int .i64 last] 24)) 24 #[.slice none 0 0, .int .i64 0] : Blk _ (w.heap.size + 1) _ _).below hb1 (by simp)).below hb2 z0_1_1
    have rdW := (hr.below k2).more k2.size
    have lO := bO.lt
    go_wp2_with fail
    refine (with_any A n c G last 0 tok 0 ls _ rdW (by omega) hG).mono ?_
    rw [hM]
    rintro e w4 ⟨A4, c4, rfl, rd4, hc4, hf4, hb4⟩
    have bO4 := bO.below hb4 lO
    have oo0 : w4.cell? ⟨w.heap.size + 1, 0, none⟩ = some (.slice none 0 0) := bO4.cell 0
    have oo1 : w4.cell? ⟨w.heap.size + 1, 1, none⟩ = some (.int .i64 0) := bO4.cell 1
    have fO4 := bO4.frozen
    have k4 := k2.trans (hb4.mono k2.size)
    have hne := fresh_of (w := w) (W := w2) (b := w.heap.size + 1) hf4 lO
    have hfr := fresh_le (w := w) (W := w2) hf4 k2.size
    clear c1 f1 c2 f2 hb4 hb1 hb2 bO
    go_wp2
    exact bodyPost_ret (v := .tuple #[.agg #[.slice A4 n c4, .int .i64 last], .int .i64 0]) (by simp [results, Try.results24, go_sem, oo0, oo1, World.cell?_setCell_other]) rfl (by
      try rw [hM]
      exact new_new HML.out ((reads_far' (q := ⟨w.heap.size + 1, 1, none⟩) (reads_far' (q := ⟨w.heap.size + 1, 0, none⟩) rd4 hne _) hne _).more (by simp)) hc4 hfr (by go_grown))

end Go.Proofs.Ytinccckpohaoiaa
