/- Parts of this claim's texts, packed by wip/tools/prune.py: what the proof does not reach is left out. -/
import Derived.Test.YthnpjjpdlihepaaGreatPD12
section
namespace Go.Proofs.YthnpjjpdlihepaaGreat.XR
open Go.Proofs.YthnpjjpdlihepaaGreat.XS Go.Proofs.YthnpjjpdlihepaaGreat.XT
open Go Go.RowKit Go.Proofs.YthnpjjpdlihepaaGreatW.PrintWords Go.Proofs.YthnpjjpdlihepaaGreatW.PrintLast Go.Proofs.YthnpjjpdlihepaaGreatW.PrintMore Go.Proofs.YthnpjjpdlihepaaGreat.Given Go.Proofs.YthnpjjpdlihepaaGreat.Given04 Go.Proofs.YthnpjjpdlihepaaGreat.M Go.Proofs.YthnpjjpdlihepaaGreat.Mont Go.Proofs.YthnpjjpdlihepaaGreat.Num
def natL (l : List (Int × Int)) : List (Nat × Nat) := l.map fun x => (x.1.toNat, x.2.toNat)
theorem wr_prod {A : Int → Bool} {m : Int} : ∀ (l : List (Int × Int)) (q n : Int), 2 ≤ q → wr A m q l n = true → n * ((prod (natL l) : Nat) : Int) = m ∧ ∀ x ∈ l, A x.1 = true ∧ 2 ≤ x.1
  | [], q, n, _, h => by
    unfold wr at h
    rw [beq_iff_eq] at h
    refine ⟨?_, by simp⟩
    show n * ((1 : Nat) : Int) = m
    rw [Int.natCast_one, Int.mul_one, h]
  | y :: l, q, n, hq, h => by
    unfold wr at h
    simp only [Bool.and_eq_true, decide_eq_true_eq] at h
    obtain ⟨⟨_, h2, hA⟩, h3⟩ := h
    obtain ⟨e, hall⟩ := wr_prod l y.1 _ (by omega) h3
    refine ⟨?_, fun x hx => ?_⟩
    · show n * ((y.1.toNat ^ y.2.toNat * prod (natL l) : Nat) : Int) = m
      rw [Int.natCast_mul, Int.natCast_pow, Int.toNat_of_nonneg (by omega), ← Int.mul_assoc]
      exact e
    · rcases List.mem_cons.1 hx with rfl | hx
      · exact ⟨hA, by omega⟩
      · exact hall x hx
theorem whole_prod {A : Int → Bool} {P : Int} {l : List (Int × Int)} (h : wholeS A P l = true) : ((prod (natL l) : Nat) : Int) = P - 1 ∧ ∀ x ∈ l, (x.1 = 2 ∨ A x.1 = true) ∧ 2 ≤ x.1 := by
  match l, h with
  | y :: t, h =>
    rw [wholeS_cons] at h
    simp only [Bool.and_eq_true, decide_eq_true_eq, beq_iff_eq] at h
    obtain ⟨⟨⟨_, h2⟩, _⟩, h3⟩ := h
    obtain ⟨e, hall⟩ := wr_prod t 2 _ (by omega) h3
    refine ⟨?_, fun x hx => ?_⟩
    · show ((y.1.toNat ^ y.2.toNat * prod (natL t) : Nat) : Int) = P - 1
      rw [Int.natCast_mul, Int.natCast_pow, Int.toNat_of_nonneg (by omega), h2]
      exact e
    · rcases List.mem_cons.1 hx with rfl | hx
      · exact ⟨.inl h2, by omega⟩
      · exact ⟨.inr (hall x hx).1, (hall x hx).2⟩
theorem pow_cast (g p n : Nat) : ((g : Int) ^ n % (p : Int) = 1) ↔ g ^ n % p = 1 := by
  rw [← Int.natCast_pow, ← Int.natCast_emod]
  exact ⟨fun h => by exact_mod_cast h, fun h => by rw [h]; rfl⟩
def Ordered (P G : Int) : Prop := 3 ≤ P ∧ ∀ x : Nat, G.toNat ^ x % P.toNat = 1 ↔ P.toNat - 1 ∣ x
theorem Ordered.prime {P G : Int} (h : Ordered P G) : Prime P.toNat := prime_of_order (by have := h.1; omega) h.2
theorem right_ordered {A : Int → Bool} {prev : Option Int} {P G : Int} {l : List (Int × Int)} (hA : ∀ q, A q = true → Prime q.toNat) (h : rightS A prev P G l = true) : Ordered P G := by
  unfold rightS at h
  simp only [Bool.and_eq_true, decide_eq_true_eq] at h
  obtain ⟨⟨hf, _⟩, hw, hu⟩ := h
  unfold fits at hf
  obtain ⟨hp, hall⟩ := whole_prod hw
  unfold fullS at hu
  simp only [Bool.and_eq_true, beq_iff_eq, Bool.not_eq_true', List.any_eq_false] at hu
  obtain ⟨hu1, hu2⟩ := hu
  obtain ⟨p, rfl⟩ := Int.eq_ofNat_of_zero_le (show 0 ≤ P by omega)
  obtain ⟨g, rfl⟩ := Int.eq_ofNat_of_zero_le (show 0 ≤ G by omega)
  have hpn : ((p : Int) - 1).toNat = p - 1 := by omega
  rw [hpn, pow_cast] at hu1
  refine ⟨by omega, fun x => ?_⟩
  rw [Int.toNat_natCast, Int.toNat_natCast]
  refine pratt (natL l) (by omega) hu1 (fun f hf' => ?_) (by omega) (fun f hf' => ?_) x
  · obtain ⟨y, hy, rfl⟩ := List.mem_map.1 hf'
    rcases (hall y hy).1 with e | e
    · show Prime y.1.toNat
      rw [e]; exact Prime.two
    · exact hA _ e
  · obtain ⟨y, hy, rfl⟩ := List.mem_map.1 hf'
    intro e
    have y2 := (hall y hy).2
    refine hu2 y hy ?_
    obtain ⟨q, hq⟩ := Int.eq_ofNat_of_zero_le (show 0 ≤ y.1 by omega)
    have e : g ^ ((p - 1) / y.1.toNat) % p = 1 := e
    rw [hq, Int.toNat_natCast] at e
    have hd : (((p : Int) - 1) / y.1).toNat = (p - 1) / q := by
      rw [hq, show (p : Int) - 1 = ((p - 1 : Nat) : Int) by omega, ← Int.natCast_ediv, Int.toNat_natCast]
    rw [hd, pow_cast]
    exact e
theorem all_ordered {L : List (Int × Int × List (Int × Int))} (n : Nat) : ∀ i, i < n → (∀ j, j ≤ i → rightAt L j = true) → ∀ e, L[i]? = some e → Ordered e.1 e.2.1 := by
  induction n with
  | zero => intro i hi; omega
  | succ n ih =>
    intro i hi hr e he
    have h := hr i (Nat.le_refl i)
    unfold rightAt at h
    rw [he] at h
    refine right_ordered (fun q hq => ?_) h
    have hq : ((L.take i).any fun a => a.1 == q) = true := hq
    rw [List.any_eq_true] at hq
    obtain ⟨a, ha, hb⟩ := hq
    rw [beq_iff_eq] at hb
    obtain ⟨j, hj, e'⟩ := List.mem_iff_getElem.1 ha
    have hji : j < i := by rw [List.length_take] at hj; omega
    have := ih j (by omega) (fun k hk => hr k (by omega)) a (by
      rw [List.getElem_take] at e'
      rw [← e']
      exact List.getElem?_eq_getElem _)
    rw [← hb]
    exact this.prime
theorem firstBad_ok {r : Nat → Bool} : ∀ (d i : Nat), (firstBad r d i).2 = 0 → ∀ j, i ≤ j → j < i + d → r j = true
  | 0, i, _, j, h1, h2 => by omega
  | d + 1, i, h, j, h1, h2 => by
    unfold firstBad at h
    cases hr : r i with
    | false => rw [hr, if_neg ft] at h; exact absurd h (show ¬ (3 : Int) = 0 by decide)
    | true =>
      rw [hr, if_pos rfl] at h
      rcases Nat.lt_or_ge i j with c | c
      · exact firstBad_ok d (i + 1) h j (by omega) (by omega)
      · have : j = i := by omega
        rw [this]; exact hr
theorem check_ordered {L : List (Int × Int × List (Int × Int))} (h : (checkS L).2 = 0) {i : Nat} {e : Int × Int × List (Int × Int)} (he : L[i]? = some e) : Ordered e.1 e.2.1 := by
  unfold checkS at h
  split at h
  · exact absurd h (by decide)
  have hi := (List.getElem?_eq_some_iff.1 he).1
  exact all_ordered (i + 1) i (by omega) (fun j hj => firstBad_ok _ 0 h j (by omega) (by omega)) e he
end Go.Proofs.YthnpjjpdlihepaaGreat.XR
end
section
namespace Go.Proofs.YthnpjjpdlihepaaGreat.Row05
open Go Go.RowKit Go.Proofs.YthnpjjpdlihepaaGreat.XR Go.Proofs.YthnpjjpdlihepaaGreatW.PrintWords Go.Proofs.YthnpjjpdlihepaaGreatW.PrintLast Go.Proofs.YthnpjjpdlihepaaGreatW.PrintMore Go.Proofs.YthnpjjpdlihepaaGreat.Given Go.Proofs.YthnpjjpdlihepaaGreat.M Go.Proofs.YthnpjjpdlihepaaGreat.XS Go.Proofs.YthnpjjpdlihepaaGreat.XT Go.Proofs.YthnpjjpdlihepaaGreat.Given05 Go.Proofs.YthnpjjpdlihepaaGreat.Given04 Go.Proofs.YthnpjjpdlihepaaGreat.Num Go.Proofs.YthnpjjpdlihepaaGreat.Count05
structure Rows (p : Nat) (ss : List Nat) : Prop where
  rising : ss.Pairwise (· < ·)
  odd : ∀ q ∈ ss, OddN q
  le : ∀ q ∈ ss, q ≤ p
  mem : p ∈ ss
  closed : ∀ q ∈ ss, ∀ x ∈ facs q, x.1 = 2 ∨ x.1 ∈ ss
  short : ss.length ≤ 12
  needed : ∀ q ∈ ss, q = p ∨ ∃ s ∈ ss, ∃ x ∈ facs s, x.1 = q
open Classical in
theorem row_ev {p : Nat} (hp : OddN p) : ∃ ss : List Nat, Rows p ss ∧ Ev (fun k => sieve_Row.f k (p : Int)) (ss.map entS, 0) := by
  have hsz := sz_le hp.1 hp.2.1 hp.odd
  obtain ⟨xs, l1, l2, l3, l4, l5, l6⟩ := gather_ev 17 p [] (.inr hp) ⟨by simp, by simp, by simp⟩ (by show 0 + _ < 1000; omega)
  rw [List.nil_append] at l3 l4 l5 l6
  have hpx : p ∈ xs := l3.resolve_left (by have := hp.1; omega)
  obtain ⟨ss, hss⟩ : ∃ ss, ss = xs.mergeSort (fun a b => decide (a ≤ b)) := ⟨_, rfl⟩
  have hperm : ss.Perm xs := hss ▸ List.mergeSort_perm _ _
  have hsorted : ss.Pairwise (· ≤ ·) := by
    have := List.pairwise_mergeSort (le := fun a b : Nat => decide (a ≤ b)) (fun a b c h1 h2 => by simp only [decide_eq_true_eq] at *; omega) (fun a b => by simp only [Bool.or_eq_true, decide_eq_true_eq]; omega) xs
    rw [hss]
    exact this.imp fun h => by simpa using h
  have hnd : ss.Nodup := hperm.nodup_iff.2 l4.nodup
  have hk : keysS (xs.map entS) = ss.map fun (q : Nat) => (q : Int) := by
    refine sorted_eq ((keysS_perm _).trans ?_) (keysS_sorted _) ?_
    · rw [List.map_map]
      exact (hperm.map _).symm
    · rw [List.pairwise_map]
      exact hsorted.imp fun h => by omega
  have hlook : (keysS (xs.map entS)).map (look (xs.map entS)) = ss.map entS := by
    rw [hk, List.map_map]
    refine List.map_congr_left fun q hq => ?_
    have hq' : (q : Int) ∈ (xs.map entS).map fun e => e.f0 := by
      rw [List.map_map]
      exact List.mem_map.2 ⟨q, hperm.mem_iff.1 hq, rfl⟩
    obtain ⟨h1, h2⟩ := look_of hq'
    obtain ⟨q', _, h3⟩ := List.mem_map.1 h1
    show look (xs.map entS) (q : Int) = entS q
    rw [← h3] at h2 ⊢
    have h2 : (q' : Int) = (q : Int) := h2
    rw [show q' = q by omega]
  have hok : okRow (xs.map entS) := by
    refine ⟨by rw [List.length_map]; omega, ?_, fun e he => ?_⟩
    · rw [List.map_map, List.nodup_iff_pairwise_ne, List.pairwise_map]
      refine (List.nodup_iff_pairwise_ne.1 l4.nodup).imp ?_
      intro a b h h'
      have h' : (a : Int) = (b : Int) := h'
      omega
    · obtain ⟨q, hq, rfl⟩ := List.mem_map.1 he
      have := (l4.odd q hq).2.1
      show U (q : Int)
      unfold U; omega
  refine ⟨ss, ⟨hsorted.imp₂ (fun a b h h' => Nat.lt_of_le_of_ne h h') (List.nodup_iff_pairwise_ne.1 hnd), fun q hq => l4.odd q (hperm.mem_iff.1 hq), fun q hq => l2 q (hperm.mem_iff.1 hq), hperm.mem_iff.2 hpx, fun q hq x hx => ?_, by rw [hperm.length_eq]; omega, fun q hq => ?_⟩, ?_⟩
  · rcases l4.closed q (hperm.mem_iff.1 hq) x hx with e | e
    · exact .inl e
    · exact .inr (hperm.mem_iff.2 e)
  · rcases l6 q (hperm.mem_iff.1 hq) with e | ⟨s, hs, e⟩
    · exact .inl e
    · exact .inr ⟨s, hperm.mem_iff.2 hs, e⟩
  · have O := odd_ev (p : Int)
    rw [decide_eq_true hp.int] at O
    refine Ev.congr (fun k => rfl) (Ev.bind O (evP rfl (Ev.bind l5 ?_)))
    rw [hlook]
    exact evP hok (Ev.now _)
open Classical in
theorem row_not {x : Int} (h : ¬ OddP x) : Ev (fun k => sieve_Row.f k x) ([], 1) := by
  have O := odd_ev x
  rw [decide_eq_false h] at O
  exact Ev.congr (fun k => rfl) (Ev.bind O (evN (by decide) (Ev.now _)))
def i2 (x : Nat × Nat) : Int × Int := ((x.1 : Int), (x.2 : Int))
theorem tri_ent (q : Nat) : tri (entS q) = ((q : Int), (gen q : Int), (facs q).map i2) := by
  show ((q : Int), (gen q : Int), (m33 (facs q)).map p59) = _
  unfold m33
  rw [List.map_map]
  rfl
theorem prod_ge {l : List (Nat × Nat)} (h : ∀ x ∈ l, 2 ≤ x.1 ∧ 1 ≤ x.2) : 2 ^ l.length ≤ prod l := by
  induction l with
  | nil => exact Nat.le_refl 1
  | cons x l ih =>
    have a := ih fun y hy => h y (List.mem_cons_of_mem _ hy)
    obtain ⟨b, c⟩ := h x List.mem_cons_self
    have : 2 ≤ x.1 ^ x.2 := by
      have h1 := Nat.pow_le_pow_right (show 0 < x.1 by omega) c
      rw [Nat.pow_one] at h1
      omega
    show 2 ^ (l.length + 1) ≤ x.1 ^ x.2 * prod l
    rw [Nat.pow_succ, Nat.mul_comm]
    exact Nat.mul_le_mul this a
theorem pow_le_prod {l : List (Nat × Nat)} (h : ∀ x ∈ l, 2 ≤ x.1) {x : Nat × Nat} (hx : x ∈ l) : 2 ^ x.2 ≤ prod l := by
  have pos : ∀ l : List (Nat × Nat), (∀ x ∈ l, 2 ≤ x.1) → 1 ≤ prod l := by
    intro l
    induction l with
    | nil => intro _; exact Nat.le_refl 1
    | cons y l ih => intro h; exact Nat.mul_pos (Nat.pow_pos (by have := h y List.mem_cons_self; omega)) (ih fun z hz => h z (List.mem_cons_of_mem _ hz))
  induction l with
  | nil => cases hx
  | cons y l ih =>
    show 2 ^ x.2 ≤ y.1 ^ y.2 * prod l
    have hl : ∀ z ∈ l, 2 ≤ z.1 := fun z hz => h z (List.mem_cons_of_mem _ hz)
    rcases List.mem_cons.1 hx with rfl | hx
    · have := Nat.pow_le_pow_left (h x List.mem_cons_self) x.2
      exact Nat.le_trans this (Nat.le_mul_of_pos_right _ (pos l hl))
    · have := ih hl hx
      exact Nat.le_trans this (Nat.le_mul_of_pos_left _ (Nat.pow_pos (by have := h y List.mem_cons_self; omega)))
theorem exp_small {e : Nat} (h : 2 ^ e < 65536) : e ≤ 62 := by
  refine Nat.le_of_not_lt fun c => ?_
  have := Nat.pow_le_pow_right (show 0 < 2 by decide) (show 16 ≤ e by omega)
  rw [show 2 ^ 16 = 65536 by decide] at this
  omega
theorem wr_facs {A : Int → Bool} (m : Nat) : ∀ (l : List (Nat × Nat)) (q n : Nat), (∀ x ∈ l, 1 ≤ x.2 ∧ x.2 ≤ 62 ∧ A (x.1 : Int) = true ∧ q < x.1) → l.Pairwise (fun x y => x.1 < y.1) → n * prod l = m → wr A (m : Int) (q : Int) (l.map i2) (n : Int) = true
  | [], q, n, _, _, h => by
    have : n = m := by rw [← h]; exact (Nat.mul_one n).symm
    subst this
    exact beq_self_eq_true _
  | x :: l, q, n, hx, hp, h => by
    obtain ⟨h1, h2, h3, h4⟩ := hx x List.mem_cons_self
    obtain ⟨hp1, hp2⟩ := List.pairwise_cons.1 hp
    have IH := wr_facs (A := A) m l x.1 (n * x.1 ^ x.2) (fun y hy => ⟨(hx y (List.mem_cons_of_mem _ hy)).1, (hx y (List.mem_cons_of_mem _ hy)).2.1, (hx y (List.mem_cons_of_mem _ hy)).2.2.1, hp1 y hy⟩) hp2 (by rw [Nat.mul_assoc]; exact h)
    show (((decide ((1 : Int) ≤ (x.2 : Int)) && decide ((x.2 : Int) ≤ 62)) && (decide ((q : Int) < (x.1 : Int)) && A (x.1 : Int))) && wr A (m : Int) (x.1 : Int) (l.map i2) ((n : Int) * (x.1 : Int) ^ ((x.2 : Int)).toNat)) = true
    rw [Int.toNat_natCast, ← Int.natCast_pow, ← Int.natCast_mul, IH, h3, decide_eq_true (by omega), decide_eq_true (by omega), decide_eq_true (by omega)]
    rfl
theorem whole_facs {A : Int → Bool} {p : Nat} (hp : OddN p) (hA : ∀ x ∈ facs p, x.1 = 2 ∨ A (x.1 : Int) = true) : wholeS A (p : Int) ((facs p).map i2) = true := by
  have h3 := hp.1
  have h6 := hp.2.1
  obtain ⟨f1, f2, f3⟩ := (facs_of hp).1
  have two : 2 ∣ prod (facs p) := by rw [f3]; have := hp.odd; exact Nat.dvd_of_mod_eq_zero (by omega)
  obtain ⟨y, hy, hd⟩ := Prime.two.dvd_prod _ two
  have y2 : y.1 = 2 := by
    rcases (f1 y hy).1.2 2 hd with e | e
    · omega
    · exact e.symm
  have hlen := prod_ge (l := facs p) fun x hx => ⟨(f1 x hx).1.1, (f1 x hx).2.2⟩
  have hexp : ∀ x ∈ facs p, x.2 ≤ 62 := fun x hx => exp_small (by
    have := pow_le_prod (l := facs p) (fun z hz => (f1 z hz).1.1) hx
    omega)
  have hl16 : (facs p).length ≤ 16 := by
    refine Nat.le_of_not_lt fun c => ?_
    have := Nat.pow_le_pow_right (show 0 < 2 by decide) (show 16 ≤ (facs p).length by omega)
    rw [show 2 ^ 16 = 65536 by decide] at this
    omega
  have hpI : (p : Int) - 1 = ((p - 1 : Nat) : Int) := by omega
  cases hf : facs p with
  | nil => rw [hf] at hy; cases hy
  | cons x t =>
    rw [hf] at f1 f2 f3 hy hexp hl16 hA
    obtain ⟨g1, g2⟩ := List.pairwise_cons.1 f2
    have x2 : x.1 = 2 := by
      rcases List.mem_cons.1 hy with e | e
      · rw [← e]; exact y2
      · have := g1 y e
        have := (f1 x List.mem_cons_self).1.1
        omega
    have hx := f1 x List.mem_cons_self
    have W := wr_facs (A := A) (p - 1) t 2 (2 ^ x.2) (fun z hz => ⟨(f1 z (List.mem_cons_of_mem _ hz)).2.2, hexp z (List.mem_cons_of_mem _ hz), (hA z (List.mem_cons_of_mem _ hz)).resolve_left (by have := g1 z hz; omega), by have := g1 z hz; omega⟩) g2 (by rw [← f3, ← x2]; rfl)
    rw [List.map_cons, wholeS_cons]
    show ((decide ((i2 x :: t.map i2).length ≤ 16) && ((x.1 : Int) == 2)) && (decide ((1 : Int) ≤ (x.2 : Int)) && decide ((x.2 : Int) ≤ 62)) && wr A ((p : Int) - 1) 2 (t.map i2) (2 ^ ((x.2 : Int)).toNat)) = true
    have e1 : ((x.1 : Int) == 2) = true := by rw [x2]; rfl
    have e2 := hexp x List.mem_cons_self
    have W' : wr A ((p : Int) - 1) 2 (t.map i2) (2 ^ ((x.2 : Int)).toNat) = true := by
      rw [hpI, Int.toNat_natCast]
      have : ((2 ^ x.2 : Nat) : Int) = (2 : Int) ^ x.2 := Int.natCast_pow 2 x.2
      rw [← this]
      exact W
    rw [W', e1, decide_eq_true (by rw [List.length_cons, List.length_map]; exact hl16), decide_eq_true (by omega), decide_eq_true (by omega)]
    rfl
theorem full_facs {p : Nat} (hp : OddN p) : fullS (p : Int) (gen p : Int) ((facs p).map i2) = true := by
  have h3 := hp.1
  obtain ⟨r2, rp, hfull, _⟩ := gen_least hp
  obtain ⟨f1, _, _⟩ := (facs_of hp).1
  unfold fullS
  rw [Bool.and_eq_true, beq_iff_eq, Bool.not_eq_true', List.any_eq_false]
  have e1 : ((p : Int) - 1).toNat = p - 1 := by omega
  refine ⟨by rw [e1, pow_cast]; exact (hfull _).2 (Nat.dvd_refl _), fun x hx => ?_⟩
  obtain ⟨y, hy, rfl⟩ := List.mem_map.1 hx
  have y2 := (f1 y hy).1.1
  have e2 : (((p : Int) - 1) / (i2 y).1).toNat = (p - 1) / y.1 := by
    show (((p : Int) - 1) / (y.1 : Int)).toNat = _
    rw [show (p : Int) - 1 = ((p - 1 : Nat) : Int) by omega, ← Int.natCast_ediv, Int.toNat_natCast]
  rw [beq_iff_eq, e2, pow_cast, hfull]
  intro h
  have dv := (facs_of hp).1.le (by omega) hy
  have a := Nat.div_lt_self (show 0 < p - 1 by omega) (show 1 < y.1 by omega)
  have b := Nat.div_pos (Nat.le_of_dvd (by omega) dv) (show 0 < y.1 by omega)
  have := Nat.le_of_dvd b h
  omega
theorem right_all {p : Nat} {ss : List Nat} (h : Rows p ss) : ∀ i, i < ss.length → rightAt ((ss.map entS).map tri) i = true := by
  intro i hi
  have e0 : (ss.map entS).map tri = ss.map fun (q : Nat) => ((q : Int), (gen q : Int), (facs q).map i2) := by
    rw [List.map_map]; exact List.map_congr_left fun q _ => tri_ent q
  have hget : ((ss.map entS).map tri)[i]? = some ((ss[i] : Int), (gen ss[i] : Int), (facs ss[i]).map i2) := by
    rw [e0, List.getElem?_map, List.getElem?_eq_getElem hi]; rfl
  unfold rightAt
  rw [hget]
  have hq := h.odd ss[i] (List.getElem_mem hi)
  obtain ⟨r2, rp, _, _⟩ := gen_least hq
  have hlt : ∀ j (hj : j < i), ss[j]'(by omega) < ss[i] := fun j hj => List.pairwise_iff_getElem.1 h.rising j i (by omega) hi hj
  have hA : ∀ x ∈ facs ss[i], x.1 = 2 ∨ (((ss.map entS).map tri).take i).any (fun a => a.1 == (x.1 : Int)) = true := fun x hx => by
    rcases h.closed _ (List.getElem_mem hi) x hx with e | e
    · exact .inl e
    · refine .inr ?_
      have hxp := (fac_odd hq hx).1
      obtain ⟨j, hj, hje⟩ := List.mem_iff_getElem.1 e
      have hji : j < i := by
        refine Nat.lt_of_not_le fun c => ?_
        rcases Nat.lt_or_ge i j with d | d
        · have := List.pairwise_iff_getElem.1 h.rising i j hi hj d; omega
        · have : i = j := by omega
          subst this; omega
      rw [e0, ← List.map_take, List.any_map, List.any_eq_true]
      refine ⟨x.1, ?_, beq_self_eq_true _⟩
      rw [← hje]
      exact List.mem_take_iff_getElem.2 ⟨j, by omega, rfl⟩
  have hw := whole_facs (A := fun q => (((ss.map entS).map tri).take i).any (fun a => a.1 == q)) hq hA
  have hf := full_facs hq
  show rightS _ _ (ss[i] : Int) (gen ss[i] : Int) ((facs ss[i]).map i2) = true
  unfold rightS
  have hfit : fits (ss[i] : Int) (gen ss[i] : Int) := ⟨by have := hq.odd; omega, by have := hq.1; omega, by have := hq.2.1; omega, by omega, by omega⟩
  rw [hw, hf, decide_eq_true hfit]
  cases i with
  | zero => rfl
  | succ i =>
    have hl := hlt i (by omega)
    have : ((((ss.map entS).map tri).take (i + 1)).getLast?.map fun a => a.1) = some (ss[i] : Int) := by
      rw [e0, ← List.map_take, List.take_succ_eq_append_getElem (by omega), List.map_append]
      simp
    rw [this]
    simp only [Bool.true_and, Bool.and_true, Bool.and_self]
    exact decide_eq_true (by omega)
theorem firstBad_none {r : Nat → Bool} (d : Nat) : ∀ i, (∀ j, i ≤ j → j < i + d → r j = true) → firstBad r d i = (0, 0) := by
  induction d with
  | zero => intro i _; rfl
  | succ d ih =>
    intro i h
    unfold firstBad
    rw [if_pos (h i (Nat.le_refl _) (by omega))]
    exact ih (i + 1) fun j a b => h j (by omega) (by omega)
theorem row_okE {p : Nat} {ss : List Nat} (h : Rows p ss) : ∀ e ∈ (ss.map entS).map tri, okE e := by
  intro e he
  rw [List.map_map] at he
  obtain ⟨q, hq, rfl⟩ := List.mem_map.1 he
  have ho := h.odd q hq
  obtain ⟨r2, rp, _, _⟩ := gen_least ho
  have h6 := ho.2.1
  show okE (tri (entS q))
  rw [tri_ent]
  refine ⟨⟨by show (0 : Int) ≤ (q : Int); omega, by show (q : Int) < _; omega⟩, ⟨by show (0 : Int) ≤ (gen q : Int); omega, by show (gen q : Int) < _; omega⟩, fun x hx => ?_⟩
  obtain ⟨y, hy, rfl⟩ := List.mem_map.1 hx
  have hf := (facs_of ho).1
  have := Nat.le_of_dvd (by have := ho.1; omega) (hf.le (by have := ho.1; omega) hy)
  have e2 := exp_small (e := y.2) (by
    have := pow_le_prod (l := facs q) (fun z hz => (hf.1 z hz).1.1) hy
    rw [hf.2.2] at this
    have := ho.1
    omega)
  exact ⟨⟨by show (0 : Int) ≤ (y.1 : Int); omega, by show (y.1 : Int) < _; omega⟩, by show _ ≤ (y.2 : Int); omega, by show (y.2 : Int) < _; omega⟩
theorem row_check {p : Nat} {ss : List Nat} (h : Rows p ss) : Ev (fun k => proof_Check.f k (ss.map entS)) (0, 0) := by
  have C := check_ev (ss.map entS) (row_okE h)
  have : checkS ((ss.map entS).map tri) = (0, 0) := by
    unfold checkS
    have hs := h.short
    have e : ((ss.map entS).map tri).length = ss.length := by rw [List.length_map, List.length_map]
    rw [e, if_neg (by omega)]
    exact firstBad_none _ 0 fun j _ hj => right_all h j (by omega)
  rw [this] at C
  exact C
end Go.Proofs.YthnpjjpdlihepaaGreat.Row05
end
section
namespace Go.Proofs.YthnpjjpdlihepaaGreat.XR
open Go.Proofs.YthnpjjpdlihepaaGreat.XS Go.Proofs.YthnpjjpdlihepaaGreat.XT
open Go Go.RowKit Go.Proofs.YthnpjjpdlihepaaGreatW.PrintWords Go.Proofs.YthnpjjpdlihepaaGreatW.PrintLast Go.Proofs.YthnpjjpdlihepaaGreatW.PrintMore Go.Proofs.YthnpjjpdlihepaaGreat.Given Go.Proofs.YthnpjjpdlihepaaGreat.Given04 Go.Proofs.YthnpjjpdlihepaaGreat.M Go.Proofs.YthnpjjpdlihepaaGreat.Mont
def cF (x : S83) : S84 := ⟨x.f0, x.f1⟩
def cE (e : S71) : S57 := ⟨e.f0, e.f1, e.f2.map cF⟩
def p60 (x : S83) : Int × Int := (x.f0, x.f1)
def tri46 (e : S71) : Int × Int × List (Int × Int) := (e.f0, e.f1, e.f2.map p60)
theorem tri_cE (e : S71) : tri (cE e) = tri46 e := by
  unfold tri cE tri46
  rw [List.map_map]
  rfl
theorem map_tri (l : List S71) : (l.map cE).map tri = l.map tri46 := by
  rw [List.map_map]
  exact List.map_congr_left fun e _ => tri_cE e
theorem rd60_drop {F : List S83} {i : Nat} {x : S83} {l : List S83} (h : F.drop i = x :: l) : rd_T83 F (i : Int) = x ∧ i < F.length ∧ F.drop (i + 1) = l := by
  have hlt : i < F.length := by
    refine Classical.byContradiction fun c => ?_
    rw [List.drop_of_length_le (by omega)] at h
    cases h
  rw [List.drop_eq_getElem_cons hlt] at h
  injection h with h1 h2
  refine ⟨?_, hlt, h2⟩
  unfold rd_T83
  simp [List.getD, List.getElem?_eq_getElem hlt, h1]
theorem rd46_drop {F : List S71} {i : Nat} {x : S71} {l : List S71} (h : F.drop i = x :: l) : rd_T71 F (i : Int) = x ∧ i < F.length ∧ F.drop (i + 1) = l := by
  have hlt : i < F.length := by
    refine Classical.byContradiction fun c => ?_
    rw [List.drop_of_length_le (by omega)] at h
    cases h
  rw [List.drop_eq_getElem_cons hlt] at h
  injection h with h1 h2
  refine ⟨?_, hlt, h2⟩
  unfold rd_T71
  simp [List.getD, List.getElem?_eq_getElem hlt, h1]
def okLen (L : List S71) : Prop := L.length < 3518437208883 ∧ ∀ e ∈ L, e.f2.length < 8796093022208
def okRow (L : List S71) : Prop := okLen L ∧ ∀ e ∈ L.map tri46, okE e
end Go.Proofs.YthnpjjpdlihepaaGreat.XR
end
section
namespace Go.Proofs.YthnpjjpdlihepaaGreat.XR
open Go.Proofs.YthnpjjpdlihepaaGreat.XS Go.Proofs.YthnpjjpdlihepaaGreat.XT
open Go Go.RowKit Go.Proofs.YthnpjjpdlihepaaGreatW.PrintWords Go.Proofs.YthnpjjpdlihepaaGreatW.PrintLast Go.Proofs.YthnpjjpdlihepaaGreatW.PrintMore Go.Proofs.YthnpjjpdlihepaaGreat.Given Go.Proofs.YthnpjjpdlihepaaGreat.Given04 Go.Proofs.YthnpjjpdlihepaaGreat.M Go.Proofs.YthnpjjpdlihepaaGreat.Mont
def has46 (L : List S71) (q : Int) : Bool := L.any fun e => e.f0 == q
theorem claimed_l0 {L : List S71} {q : Int} (hL : L.length ≤ 1000) (l : List S71) : ∀ i : Nat, L.drop i = l → Ev (fun k => epicycleref04_Claimed.l0 k q L (L.length : Int) i) (has46 l q) := by
  induction l with
  | nil =>
    intro i hd
    have : L.length ≤ i := by have := congrArg List.length hd; simp at this; omega
    have c : ¬ (i : Int) < (L.length : Int) := by omega
    refine Ev.step (f := fun _ => some false) (fun k => ?_) (Ev.now _)
    simp only [epicycleref04_Claimed.l0]
    rw [if_neg c]
  | cons x l ih =>
    intro i hd
    obtain ⟨hx, hlt, hd'⟩ := rd46_drop hd
    have c : (i : Int) < (L.length : Int) := by omega
    have c0 : 0 ≤ (i : Int) := by omega
    have w : wrap64 ((i : Int) + 1) = ((i + 1 : Nat) : Int) := by rw [w64_id _ (by omega) (by omega)]; omega
    have IH := ih (i + 1) hd'
    by_cases h : x.f0 = q
    · have e : has46 (x :: l) q = true := by unfold has46; rw [List.any_cons, beq_iff_eq.2 h, Bool.true_or]
      rw [e]
      refine Ev.step (f := fun _ => some true) (fun k => ?_) (Ev.now _)
      simp only [epicycleref04_Claimed.l0]
      rw [if_pos c, if_pos c0, if_pos c, hx, if_pos h]
    · have e : has46 (x :: l) q = has46 l q := by unfold has46; rw [List.any_cons, beq_eq_false_iff_ne.2 h, Bool.false_or]
      rw [e]
      refine Ev.step (fun k => ?_) IH
      simp only [epicycleref04_Claimed.l0]
      rw [if_pos c, if_pos c0, if_pos c, hx, if_neg h, w]
theorem claimed_ev {L : List S71} (q : Int) (hL : L.length ≤ 1000) : Ev (fun k => epicycleref04_Claimed.f k L q) (has46 L q) := by
  refine Ev.congr (fun k => ?_) (claimed_l0 hL L 0 rfl)
  unfold epicycleref04_Claimed.f
  rfl
def prodS (m : Int) : List (Int × Int) → Int → Int × Bool
  | [], n => (n, true)
  | x :: l, n => if x.2 < 1 ∨ x.2 > 62 ∨ x.1 < 2 then (0, false) else if n * x.1 ^ x.2.toNat > m then (0, false) else prodS m l (n * x.1 ^ x.2.toNat)
theorem prod_l1 {m i Q E len : Int} {L : List S83} {T : Int → Int × Bool} (um : U m) (hQ : 2 ≤ Q) (e2 : E ≤ 62)
    (hT : ∀ n, 1 ≤ n → n ≤ m → Ev (fun k => epicycleref04_Product.l0 k m n L len (wrap64 (i + 1))) (T n)) :
    ∀ (d : Nat) (c n : Int), 0 ≤ c → c + d = E → 1 ≤ n → n ≤ m → Ev (fun k => epicycleref04_Product.l1 k m n c L len i Q E) (if n * Q ^ d > m then (0, false) else T (n * Q ^ d))
  | 0, c, n, c0, cd, n1, nm => by
    have q : ¬ n > m := by omega
    have q2 : ¬ c < E := by omega
    rw [Int.pow_zero, Int.mul_one, if_neg q]
    refine Ev.step (fun k => ?_) (hT n n1 nm)
    simp only [epicycleref04_Product.l1]
    rw [if_neg q2]
  | d + 1, c, n, c0, cd, n1, nm => by
    have hQ0 : ¬ Q = 0 := by omega
    have q2 : c < E := by omega
    have hw : wrap64 (c + 1) = c + 1 := w64_id _ (by omega) (by omega)
    have e : n * Q ^ (d + 1) = n * Q * Q ^ d := by rw [Int.pow_succ, Int.mul_comm (Q ^ d) Q, Int.mul_assoc]
    have hp : n ≤ n * Q := mul_ge_left (by omega) (by omega)
    have hdv : IntKind.u64.wrap (Int.tdiv m Q) = m / Q := by
      have h0 : 0 ≤ m / Q := Int.ediv_nonneg um.1 (by omega)
      have h1 : m / Q ≤ m := Int.ediv_le_self _ um.1
      have h2 := um.2
      rw [tdiv_pos um.1, wu64_id _ h0 (by omega)]
    have hcmp : n > m / Q ↔ n * Q > m := by
      have := Int.le_ediv_iff_mul_le (a := n) (b := m) (c := Q) (by omega)
      omega
    by_cases hb : n > m / Q
    · have hb' : n * Q > m := hcmp.1 hb
      have : n * Q ^ (d + 1) > m := by
        rw [e]
        have := mul_ge_left (n := n * Q) (by omega) (pow_ge_one (q := Q) (by omega) d)
        omega
      rw [if_pos this]
      refine Ev.step (f := fun _ => some (0, false)) (fun k => ?_) (Ev.now _)
      simp only [epicycleref04_Product.l1]
      rw [if_pos q2, if_neg hQ0, hdv, if_pos hb]
    · have hb' : n * Q ≤ m := by have := fun h => hb (hcmp.2 h); omega
      have hwn : IntKind.u64.wrap (n * Q) = n * Q := wu64_id _ (by omega) (by have := um.2; omega)
      have IH := prod_l1 um hQ e2 hT d (c + 1) (n * Q) (by omega) (by omega) (by omega) hb'
      rw [e]
      refine Ev.step (fun k => ?_) IH
      simp only [epicycleref04_Product.l1]
      rw [if_pos q2, if_neg hQ0, hdv, if_neg hb, hwn, hw]
theorem prod_j1t {m n len i Q E : Int} {L : List S83} : Ev (fun k => epicycleref04_Product.j1 k m n L len i true Q E) (0, false) :=
  Ev.step (f := fun _ => some (0, false)) (fun k => by simp [epicycleref04_Product.j1]) (Ev.now _)
theorem prod_l0 {m : Int} {L : List S83} (um : U m) (hL : L.length ≤ 1000) (l : List S83) : ∀ (i : Nat) (n : Int), L.drop i = l → 1 ≤ n → n ≤ m →
    Ev (fun k => epicycleref04_Product.l0 k m n L (L.length : Int) i) (prodS m (l.map p60) n) := by
  induction l with
  | nil =>
    intro i n hd _ _
    have : L.length ≤ i := by have := congrArg List.length hd; simp at this; omega
    have c : ¬ (i : Int) < (L.length : Int) := by omega
    refine Ev.step (f := fun _ => some (n, true)) (fun k => ?_) (Ev.now _)
    simp only [epicycleref04_Product.l0]
    rw [if_neg c]
  | cons x l ih =>
    intro i n hd n1 nm
    obtain ⟨hx, hlt, hd'⟩ := rd60_drop hd
    have c : (i : Int) < (L.length : Int) := by omega
    have c0 : 0 ≤ (i : Int) := by omega
    have w : wrap64 ((i : Int) + 1) = ((i + 1 : Nat) : Int) := by rw [w64_id _ (by omega) (by omega)]; omega
    rw [List.map_cons]
    have hs : prodS m (p60 x :: l.map p60) n = if x.f1 < 1 ∨ x.f1 > 62 ∨ x.f0 < 2 then (0, false) else if n * x.f0 ^ x.f1.toNat > m then (0, false) else prodS m (l.map p60) (n * x.f0 ^ x.f1.toNat) := rfl
    rw [hs]
    have jT := prod_j1t (m := m) (n := n) (len := (L.length : Int)) (i := i) (Q := x.f0) (E := x.f1) (L := L)
    by_cases h1 : x.f1 < 1
    · rw [if_pos (.inl h1)]
      refine Ev.step (fun k => ?_) jT
      simp only [epicycleref04_Product.l0]
      rw [if_pos c, if_pos c0, if_pos c, hx, if_pos h1]
    by_cases h2 : x.f1 > 62
    · rw [if_pos (.inr (.inl h2))]
      refine Ev.step (fun k => ?_) jT
      simp only [epicycleref04_Product.l0]
      rw [if_pos c, if_pos c0, if_pos c, hx, if_neg h1, if_pos h2]
    by_cases h3 : x.f0 < 2
    · rw [if_pos (.inr (.inr h3))]
      refine Ev.step (fun k => ?_) jT
      simp only [epicycleref04_Product.l0]
      rw [if_pos c, if_pos c0, if_pos c, hx, if_neg h1, if_neg h2, decide_eq_true h3]
    have hno : ¬ (x.f1 < 1 ∨ x.f1 > 62 ∨ x.f0 < 2) := by omega
    have q2 : 2 ≤ x.f0 := by omega
    have e2 : x.f1 ≤ 62 := by omega
    have e3 : (0 : Int) + (x.f1.toNat : Nat) = x.f1 := by omega
    rw [if_neg hno]
    have L1 := prod_l1 (m := m) (i := i) (Q := x.f0) (E := x.f1) (len := (L.length : Int)) (L := L) (T := prodS m (l.map p60)) um q2 e2 (fun n n1 nm => by rw [w]; exact ih (i + 1) n hd' n1 nm) x.f1.toNat 0 n (Int.le_refl 0) e3 n1 nm
    refine Ev.step (f := fun k => epicycleref04_Product.j1 k m n L (L.length : Int) i false x.f0 x.f1) (fun k => ?_) (Ev.step (fun k => ?_) L1)
    · simp only [epicycleref04_Product.l0]
      rw [if_pos c, if_pos c0, if_pos c, hx, if_neg h1, if_neg h2, decide_eq_false h3]
    · simp only [epicycleref04_Product.j1]
      rw [if_neg ft]
theorem prod_ev {m : Int} {L : List S83} (um : U m) (h1 : 1 ≤ m) (hL : L.length ≤ 1000) : Ev (fun k => epicycleref04_Product.f k L m) (prodS m (L.map p60) 1) := by
  refine Ev.congr (fun k => ?_) (prod_l0 um hL L 0 1 rfl (Int.le_refl 1) h1)
  unfold epicycleref04_Product.f
  rfl
def chainS (A : Int → Bool) : Int → List (Int × Int) → Bool
  | _, [] => true
  | q, x :: l => (decide (q < x.1) && A x.1) && chainS A x.1 l
theorem wr_gt {A : Int → Bool} {m : Int} : ∀ (l : List (Int × Int)) (q n : Int), 2 ≤ q → m < n → 0 ≤ n → wr A m q l n = false
  | [], q, n, _, hn, _ => by unfold wr; exact beq_eq_false_iff_ne.mpr (by omega)
  | x :: l, q, n, hq, hn, h0 => by
    unfold wr
    by_cases h : q < x.1
    · have := mul_ge_left (n := n) h0 (pow_ge_one (q := x.1) (by omega) x.2.toNat)
      rw [wr_gt l x.1 _ (by omega) (by omega) (by omega), Bool.and_false]
    · rw [decide_eq_false h]; simp
theorem wr_split {A : Int → Bool} {m : Int} : ∀ (l : List (Int × Int)) (q n : Int), 2 ≤ q → 0 ≤ n → wr A m q l n = (chainS A q l && (prodS m l n == (m, true)))
  | [], q, n, _, _ => by
    unfold wr chainS prodS
    rw [Bool.true_and]
    by_cases h : n = m
    · rw [h]; simp
    · rw [beq_eq_false_iff_ne.mpr h, beq_eq_false_iff_ne.mpr (fun e => h (congrArg Prod.fst e))]
  | x :: l, q, n, hq, h0 => by
    unfold wr chainS prodS
    by_cases h : q < x.1
    · rw [decide_eq_true h]
      cases hA : A x.1 with
      | false => simp
      | true =>
        by_cases h1 : x.2 < 1
        · have c1 : ¬ 1 ≤ x.2 := by omega
          rw [if_pos (.inl h1), decide_eq_false c1]; simp
        by_cases h2 : x.2 > 62
        · have c2 : ¬ x.2 ≤ 62 := by omega
          rw [if_pos (.inr (.inl h2)), decide_eq_false c2]; simp
        have c1 : 1 ≤ x.2 := by omega
        have c2 : x.2 ≤ 62 := by omega
        have c3 : ¬ (x.2 < 1 ∨ x.2 > 62 ∨ x.1 < 2) := by omega
        have hge := mul_ge_left (n := n) h0 (pow_ge_one (q := x.1) (by omega) x.2.toNat)
        rw [if_neg c3, decide_eq_true c1, decide_eq_true c2]
        by_cases h4 : n * x.1 ^ x.2.toNat > m
        · rw [if_pos h4, wr_gt l x.1 _ (by omega) h4 (by omega)]; simp
        · rw [if_neg h4, wr_split l x.1 _ (by omega) (by omega)]; simp
    · rw [decide_eq_false h]; simp
theorem whole_split {A : Int → Bool} {P : Int} {x : Int × Int} {t : List (Int × Int)} : wholeS A P (x :: t) = ((decide ((x :: t).length ≤ 16) && (x.1 == 2)) && (chainS A x.1 t && (prodS (P - 1) (x :: t) 1 == (P - 1, true)))) := by
  rw [wholeS_cons]
  unfold prodS
  by_cases h : x.1 = 2
  · rw [h]
    by_cases h1 : x.2 < 1
    · have c1 : ¬ 1 ≤ x.2 := by omega
      rw [if_pos (.inl h1), decide_eq_false c1]; simp
    by_cases h2 : x.2 > 62
    · have c2 : ¬ x.2 ≤ 62 := by omega
      rw [if_pos (.inr (.inl h2)), decide_eq_false c2]; simp
    have c1 : 1 ≤ x.2 := by omega
    have c2 : x.2 ≤ 62 := by omega
    have c3 : ¬ (x.2 < 1 ∨ x.2 > 62 ∨ (2 : Int) < 2) := by omega
    have hge : 1 ≤ (2 : Int) ^ x.2.toNat := pow_ge_one (by omega) _
    rw [if_neg c3, decide_eq_true c1, decide_eq_true c2, Int.one_mul]
    by_cases h4 : (2 : Int) ^ x.2.toNat > P - 1
    · rw [if_pos h4, wr_gt t 2 _ (Int.le_refl 2) h4 (by omega)]; simp
    · rw [if_neg h4, wr_split t 2 _ (Int.le_refl 2) (by omega)]; simp
  · rw [show (x.1 == 2) = false from beq_eq_false_iff_ne.mpr h]; simp
end Go.Proofs.YthnpjjpdlihepaaGreat.XR
end
section
namespace Go.Proofs.YthnpjjpdlihepaaGreat.XR
open Go.Proofs.YthnpjjpdlihepaaGreat.XS Go.Proofs.YthnpjjpdlihepaaGreat.XT
open Go Go.RowKit Go.Proofs.YthnpjjpdlihepaaGreatW.PrintWords Go.Proofs.YthnpjjpdlihepaaGreatW.PrintLast Go.Proofs.YthnpjjpdlihepaaGreatW.PrintMore Go.Proofs.YthnpjjpdlihepaaGreat.Given Go.Proofs.YthnpjjpdlihepaaGreat.Given04 Go.Proofs.YthnpjjpdlihepaaGreat.M Go.Proofs.YthnpjjpdlihepaaGreat.Mont
section
variable {L : List S71} {a : Nat} {P G : Int} {F : List S83}
theorem rr_j1t {x1 : Int} : Ev (fun k => epicycleref04_Right.j1 k L x1 true P G F) false :=
  Ev.step (f := fun _ => some false) (fun k => by simp [epicycleref04_Right.j1]) (Ev.now _)
theorem rr_j3t {x1 x6 : Int} : Ev (fun k => epicycleref04_Right.j3 k L x1 x6 true P G F) false :=
  Ev.step (f := fun _ => some false) (fun k => by simp [epicycleref04_Right.j3]) (Ev.now _)
theorem rr_j4t : Ev (fun k => epicycleref04_Right.j4 k true P G F) false :=
  Ev.step (f := fun _ => some false) (fun k => by simp [epicycleref04_Right.j4]) (Ev.now _)
theorem rr_j0t {x1 : Int} : Ev (fun k => epicycleref04_Right.j0 k L x1 true P G F) false :=
  Ev.step (f := fun _ => some false) (fun k => by simp [epicycleref04_Right.j0]) (Ev.now _)
theorem rr_l1 (uP : U P) (uG : U G) (hP : 3 ≤ P) (h16 : F.length ≤ 16) (hok : okL (F.map p60)) (h2 : ∀ x ∈ F.map p60, 2 ≤ x.1) (l : List S83) : ∀ i : Nat, F.drop i = l →
    Ev (fun k => epicycleref04_Right.l1 k F (F.length : Int) i P G F) (!((l.map p60).any fun x => G ^ ((P - 1) / x.1).toNat % P == 1)) := by
  induction l with
  | nil =>
    intro i hd
    have : F.length ≤ i := by have := congrArg List.length hd; simp at this; omega
    have c : ¬ (i : Int) < (F.length : Int) := by omega
    refine Ev.step (f := fun _ => some true) (fun k => ?_) (Ev.now _)
    simp only [epicycleref04_Right.l1]
    rw [if_neg c]
  | cons x l ih =>
    intro i hd
    obtain ⟨hx, hlt, hd'⟩ := rd60_drop hd
    have hxm : p60 x ∈ F.map p60 := List.mem_map_of_mem (List.mem_of_mem_drop (show x ∈ F.drop i by rw [hd]; exact List.mem_cons_self))
    have hx2 : 2 ≤ x.f0 := h2 _ hxm
    have ux : U x.f0 := (hok _ hxm).1
    have c : (i : Int) < (F.length : Int) := by omega
    have c0 : 0 ≤ (i : Int) := by omega
    have cz : ¬ x.f0 = 0 := by omega
    have w : wrap64 ((i : Int) + 1) = ((i + 1 : Nat) : Int) := by rw [w64_id _ (by omega) (by omega)]; omega
    have wp : IntKind.u64.wrap (P - 1) = P - 1 := wu64_id _ (by omega) (by have := uP.2; omega)
    have hq0 : 0 ≤ (P - 1) / x.f0 := Int.ediv_nonneg (by omega) (by omega)
    have hq1 : (P - 1) / x.f0 ≤ P - 1 := Int.ediv_le_self _ (by omega)
    have hq2 : (P - 1) / x.f0 < 18446744073709551616 := by have := uP.2; omega
    have wd : IntKind.u64.wrap (Int.tdiv (P - 1) x.f0) = (P - 1) / x.f0 := by rw [tdiv_pos (by omega), wu64_id _ hq0 hq2]
    have hp := ref02_Pow_ev uG ⟨hq0, hq2⟩ uP (show P ≠ 0 by omega)
    have IH := ih (i + 1) hd'
    rw [List.map_cons, List.any_cons]
    have hg : G ^ ((P - 1) / (p60 x).1).toNat % P = G ^ ((P - 1) / x.f0).toNat % P := rfl
    rw [hg]
    by_cases h : G ^ ((P - 1) / x.f0).toNat % P = 1
    · rw [h, show ((1 : Int) == 1) = true from rfl, Bool.true_or]
      rw [h] at hp
      refine Ev.step (f := fun k => (epicycleref02_Pow.f k G ((P - 1) / x.f0) P).bind fun t177 => (if t177 = 1 then (some false) else (epicycleref04_Right.l1 k F (F.length : Int) ((i + 1 : Nat) : Int) P G F))) (fun k => ?_) (Ev.bind hp ?_)
      · simp only [epicycleref04_Right.l1]
        rw [if_pos c, if_pos c0, if_pos c, hx, if_neg cz, wp, wd, w]
      · exact evP rfl (Ev.now _)
    · rw [beq_eq_false_iff_ne.mpr h, Bool.false_or]
      refine Ev.step (f := fun k => (epicycleref02_Pow.f k G ((P - 1) / x.f0) P).bind fun t177 => (if t177 = 1 then (some false) else (epicycleref04_Right.l1 k F (F.length : Int) ((i + 1 : Nat) : Int) P G F))) (fun k => ?_) (Ev.bind hp ?_)
      · simp only [epicycleref04_Right.l1]
        rw [if_pos c, if_pos c0, if_pos c, hx, if_neg cz, wp, wd, w]
      · exact evN h IH
theorem prodS_two {m : Int} : ∀ (l : List (Int × Int)) (n : Int), (prodS m l n).2 = true → ∀ x ∈ l, 2 ≤ x.1
  | [], _, _ => by simp
  | y :: l, n, h => by
    unfold prodS at h
    by_cases c : y.2 < 1 ∨ y.2 > 62 ∨ y.1 < 2
    · rw [if_pos c] at h; exact absurd h ft
    rw [if_neg c] at h
    by_cases c2 : n * y.1 ^ y.2.toNat > m
    · rw [if_pos c2] at h; exact absurd h ft
    rw [if_neg c2] at h
    intro x hx
    rcases List.mem_cons.1 hx with rfl | hx
    · omega
    · exact prodS_two l _ h x hx
def tailS (P G : Int) (l : List (Int × Int)) : Bool := (prodS (P - 1) l 1 == (P - 1, true)) && (decide (2 ≤ G ∧ G < P) && fullS P G l)
theorem rr_tail {x1 : Int} (uP : U P) (uG : U G) (hP : 3 ≤ P) (h16 : F.length ≤ 16) (hok : okL (F.map p60)) : Ev (fun k => epicycleref04_Right.l0 k L x1 (F.length : Int) P G F) (tailS P G (F.map p60)) := by
  have wp : IntKind.u64.wrap (P - 1) = P - 1 := wu64_id _ (by omega) (by have := uP.2; omega)
  have um : U (P - 1) := by unfold U at *; omega
  have m1 : 1 ≤ P - 1 := by omega
  have hpr := prod_ev (L := F) um m1 (by omega)
  have hz : P ≠ 0 := by omega
  have hpw := ref02_Pow_ev uG um uP hz
  refine Ev.step (f := fun k => (epicycleref04_Product.f k F (P - 1)).bind fun bt172 => (if bt172.2 = true then (if bt172.1 = P - 1 then (if G < 2 then (epicycleref04_Right.j4 k true P G F) else (if G ≥ P then (epicycleref04_Right.j4 k true P G F) else ((epicycleref02_Pow.f k G (P - 1) P).bind fun t174 => (epicycleref04_Right.j4 k (t174 != 1) P G F)))) else (epicycleref04_Right.j4 k true P G F)) else (epicycleref04_Right.j4 k true P G F))) (fun k => ?_) (Ev.bind hpr ?_)
  · simp only [epicycleref04_Right.l0]
    rw [if_neg (Int.lt_irrefl _), wp]
  unfold tailS
  have h2 := prodS_two (m := P - 1) (F.map p60) 1
  generalize prodS (P - 1) (F.map p60) 1 = R at *
  obtain ⟨n, b⟩ := R
  cases b with
  | false =>
    have e : ((n, false) == (P - 1, true)) = false := beq_eq_false_iff_ne.mpr (fun e => ft (congrArg Prod.snd e))
    rw [e, Bool.false_and]
    exact evN ft rr_j4t
  | true =>
    refine evP rfl ?_
    by_cases hn : n = P - 1
    · subst hn
      rw [show ((P - 1, true) == (P - 1, true)) = true from beq_self_eq_true _, Bool.true_and]
      refine evP rfl ?_
      by_cases c1 : G < 2
      · have : ¬ (2 ≤ G ∧ G < P) := by omega
        rw [decide_eq_false this, Bool.false_and]
        exact evP c1 rr_j4t
      refine evN c1 ?_
      by_cases c2 : G ≥ P
      · have : ¬ (2 ≤ G ∧ G < P) := by omega
        rw [decide_eq_false this, Bool.false_and]
        exact evP c2 rr_j4t
      have c3 : 2 ≤ G ∧ G < P := by omega
      refine evN c2 ?_
      rw [decide_eq_true c3, Bool.true_and]
      refine Ev.bind hpw ?_
      unfold fullS
      by_cases c4 : G ^ (P - 1).toNat % P = 1
      · rw [c4, show ((1 : Int) == 1) = true from rfl, Bool.true_and]
        refine Ev.step (f := fun k => epicycleref04_Right.l1 k F (F.length : Int) 0 P G F) (fun k => ?_) (rr_l1 uP uG hP h16 hok (h2 rfl) F 0 rfl)
        simp only [epicycleref04_Right.j4]
        rw [if_neg (show ¬ ((1 : Int) != 1) = true by decide)]
      · rw [beq_eq_false_iff_ne.mpr c4, Bool.false_and, show (G ^ (P - 1).toNat % P != 1) = true by rw [bne, beq_eq_false_iff_ne.mpr c4]; rfl]
        exact rr_j4t
    · have e : ((n, true) == (P - 1, true)) = false := beq_eq_false_iff_ne.mpr (fun e => hn (congrArg Prod.fst e))
      rw [e, Bool.false_and]
      exact evN hn rr_j4t
theorem rr_l0 (ha : a ≤ L.length) (hL : L.length ≤ 1000) (uP : U P) (uG : U G) (hP : 3 ≤ P) (h16 : F.length ≤ 16) (hok : okL (F.map p60)) (l : List S83) : ∀ (i : Nat) (q : Int), F.drop i = l → 1 ≤ i → i ≤ F.length → (rd_T83 F ((i - 1 : Nat) : Int)).f0 = q →
    Ev (fun k => epicycleref04_Right.l0 k L (a : Int) i P G F) (chainS (has46 (L.take a)) q (l.map p60) && tailS P G (F.map p60)) := by
  induction l with
  | nil =>
    intro i q hd i1 il hq
    have : F.length ≤ i := by have := congrArg List.length hd; simp at this; omega
    have e : i = F.length := by omega
    subst e
    rw [List.map_nil, chainS, Bool.true_and]
    exact rr_tail uP uG hP h16 hok
  | cons x l ih =>
    intro i q hd i1 il hq
    obtain ⟨hx, hlt, hd'⟩ := rd60_drop hd
    have c : (i : Int) < (F.length : Int) := by omega
    have c0 : 0 ≤ (i : Int) := by omega
    have w1 : wrap64 ((i : Int) - 1) = ((i - 1 : Nat) : Int) := by rw [w64_id _ (by omega) (by omega)]; omega
    have p1 : 0 ≤ ((i - 1 : Nat) : Int) := by omega
    have p2 : ((i - 1 : Nat) : Int) < (F.length : Int) := by omega
    have w : wrap64 ((i : Int) + 1) = ((i + 1 : Nat) : Int) := by rw [w64_id _ (by omega) (by omega)]; omega
    have a0 : 0 ≤ (a : Int) := by omega
    have a1 : (a : Int) ≤ (L.length : Int) := by omega
    have lt : (L.take a).length ≤ 1000 := by simp; omega
    rw [List.map_cons, chainS]
    by_cases h3 : x.f0 ≤ q
    · have n3 : ¬ q < (p60 x).1 := by show ¬ q < x.f0; omega
      rw [decide_eq_false n3, Bool.false_and, Bool.false_and, Bool.false_and]
      refine Ev.step (fun k => ?_) (rr_j3t (L := L) (x1 := (a : Int)) (x6 := (i : Int)) (P := P) (G := G) (F := F))
      simp only [epicycleref04_Right.l0]
      rw [if_pos c, if_pos c0, w1, if_pos p1, if_pos p2, hx, hq, if_pos h3]
    have n3 : q < (p60 x).1 := by show q < x.f0; omega
    have hc := claimed_ev (L := L.take a) x.f0 lt
    have E : ∀ k, epicycleref04_Right.l0 (k + 1) L (a : Int) i P G F = (epicycleref04_Claimed.f k (L.take a) x.f0).bind fun t171 => (epicycleref04_Right.j3 k L (a : Int) i (!t171) P G F) := fun k => by
      simp only [epicycleref04_Right.l0]
      rw [if_pos c, if_pos c0, w1, if_pos p1, if_pos p2, hx, hq, if_neg h3, if_pos a0, if_pos a1, Int.toNat_natCast]
    refine Ev.step E (Ev.bind hc ?_)
    rw [decide_eq_true n3, Bool.true_and]
    have hA : has46 (L.take a) (p60 x).1 = has46 (L.take a) x.f0 := rfl
    rw [hA]
    cases has46 (L.take a) x.f0 with
    | false =>
      rw [Bool.false_and, Bool.false_and]
      exact rr_j3t
    | true =>
      rw [Bool.true_and]
      have hq' : (rd_T83 F ((i + 1 - 1 : Nat) : Int)).f0 = (p60 x).1 := by rw [show i + 1 - 1 = i from rfl, hx]; rfl
      have IH := ih (i + 1) (p60 x).1 hd' (by omega) (by omega) hq'
      refine Ev.step (fun k => ?_) IH
      simp only [epicycleref04_Right.j3]
      rw [if_neg (show ¬ (!true) = true by decide), w]
theorem rr_j0 (ha : a ≤ L.length) (hL : L.length ≤ 1000) (uP : U P) (uG : U G) (hP : 3 ≤ P) (hok : okL (F.map p60)) :
    Ev (fun k => epicycleref04_Right.j0 k L (a : Int) false P G F) (wholeS (has46 (L.take a)) P (F.map p60) && (decide (2 ≤ G ∧ G < P) && fullS P G (F.map p60))) := by
  match F, hok with
  | [], _ =>
    rw [List.map_nil, wholeS, Bool.false_and]
    refine Ev.step (fun k => ?_) (rr_j1t (L := L) (x1 := (a : Int)) (P := P) (G := G) (F := []))
    simp only [epicycleref04_Right.j0]
    rw [if_neg ft, if_pos (by simp)]
  | x :: t, hok =>
    obtain ⟨F, hF⟩ : ∃ F, F = x :: t := ⟨_, rfl⟩
    have hlen : F.length = t.length + 1 := by rw [hF]; rfl
    have h0 : rd_T83 F 0 = x := by rw [hF]; rfl
    have hd1 : F.drop 1 = t := by rw [hF]; rfl
    have hok' : okL (F.map p60) := by rw [hF]; exact hok
    clear hok
    rw [List.map_cons, whole_split, ← List.map_cons (f := p60) (a := x), ← hF]
    have n1 : ¬ (F.length : Int) < 1 := by omega
    have p0 : 0 < (F.length : Int) := by omega
    by_cases h16 : (F.length : Int) > 16
    · have c : ¬ (F.map p60).length ≤ 16 := by simp; omega
      rw [decide_eq_false c, Bool.false_and, Bool.false_and, Bool.false_and]
      refine Ev.step (fun k => ?_) (rr_j1t (L := L) (x1 := (a : Int)) (P := P) (G := G) (F := F))
      simp only [epicycleref04_Right.j0]
      rw [if_neg ft, if_neg n1, if_pos h16]
    have c : (F.map p60).length ≤ 16 := by simp; omega
    rw [decide_eq_true c, Bool.true_and]
    have hE : ∀ k, epicycleref04_Right.j0 (k + 1) L (a : Int) false P G F = epicycleref04_Right.j1 k L (a : Int) (x.f0 != 2) P G F := fun k => by
      simp only [epicycleref04_Right.j0]
      rw [if_neg ft, if_neg n1, if_neg h16, if_pos p0, h0]
    refine Ev.step hE ?_
    have hb : ((p60 x).1 == 2) = (x.f0 == 2) := rfl
    rw [hb]
    by_cases h2 : x.f0 = 2
    · rw [h2, show ((2 : Int) == 2) = true from rfl, Bool.true_and, show ((2 : Int) != 2) = false from rfl]
      have hq : (rd_T83 F ((1 - 1 : Nat) : Int)).f0 = (p60 x).1 := by rw [show ((1 - 1 : Nat) : Int) = 0 from rfl, h0]; rfl
      have h := rr_l0 (a := a) (L := L) (F := F) (P := P) (G := G) ha hL uP uG hP (by omega) hok' t 1 (p60 x).1 hd1 (Nat.le_refl 1) (by omega) hq
      have e : (chainS (has46 (L.take a)) (p60 x).1 (t.map p60) && tailS P G (F.map p60)) = (chainS (has46 (L.take a)) (p60 x).1 (t.map p60) && (prodS (P - 1) (F.map p60) 1 == (P - 1, true)) && (decide (2 ≤ G ∧ G < P) && fullS P G (F.map p60))) := by
        unfold tailS; rw [Bool.and_assoc]
      rw [e] at h
      refine Ev.step (fun k => ?_) h
      simp only [epicycleref04_Right.j1]
      rw [if_neg ft]
      rfl
    · rw [show (x.f0 == 2) = false from beq_eq_false_iff_ne.mpr h2, Bool.false_and, Bool.false_and, show (x.f0 != 2) = true by simp [bne, h2]]
      exact rr_j1t
end
theorem has46_tri (l : List S71) : has46 l = fun q => (l.map tri46).any fun a => a.1 == q := by
  funext q
  unfold has46
  rw [List.any_map]
  rfl
theorem rr_ev {L : List S71} (hok : ∀ e ∈ L.map tri46, okE e) (hL : L.length ≤ 1000) {i : Nat} (hi : i < L.length) : Ev (fun k => epicycleref04_Right.f k L (i : Int)) (rightAt (L.map tri46) i) := by
  have hrd : rd_T71 L (i : Int) = L[i] := by unfold rd_T71; simp [List.getD, List.getElem?_eq_getElem hi]
  have ho := hok (tri46 L[i]) (List.mem_map_of_mem (List.getElem_mem hi))
  have uP : U L[i].f0 := ho.1
  have uG : U L[i].f1 := ho.2.1
  have hF : okL (L[i].f2.map p60) := ho.2.2
  clear ho
  have q0 : 0 ≤ (i : Int) := by omega
  have q1 : (i : Int) < (L.length : Int) := by omega
  have w1 : wrap64 ((i : Int) - 1) = (i : Int) - 1 := w64_id _ (by omega) (by omega)
  have hr : rightAt (L.map tri46) i = rightS (has46 (L.take i)) ((L.take i).getLast?.map fun e => e.f0) L[i].f0 L[i].f1 (L[i].f2.map p60) := by
    unfold rightAt
    rw [List.getElem?_map, List.getElem?_eq_getElem hi, Option.map_some, has46_tri, ← List.map_take, List.getLast?_map, Option.map_map]
    rfl
  rw [hr]
  generalize hP : L[i].f0 = P at *
  generalize hG : L[i].f1 = G at *
  generalize hFF : L[i].f2 = F at *
  have jT := rr_j0t (L := L) (x1 := (i : Int)) (P := P) (G := G) (F := F)
  unfold rightS
  by_cases c1 : P % 2 = 0
  · have : ¬ fits P G := by unfold fits; omega
    rw [decide_eq_false this, Bool.false_and, Bool.false_and]
    refine Ev.congr (fun k => ?_) jT
    unfold epicycleref04_Right.f
    rw [if_pos q0, if_pos q1, hrd, hP, hG, hFF, tmod_pos uP.1, if_pos c1]
  by_cases c2 : P < 3
  · have : ¬ fits P G := by unfold fits; omega
    rw [decide_eq_false this, Bool.false_and, Bool.false_and]
    refine Ev.congr (fun k => ?_) jT
    unfold epicycleref04_Right.f
    rw [if_pos q0, if_pos q1, hrd, hP, hG, hFF, tmod_pos uP.1, if_neg c1, if_pos c2]
  by_cases c3 : P > 9223372036854775807
  · have : ¬ fits P G := by unfold fits; omega
    rw [decide_eq_false this, Bool.false_and, Bool.false_and]
    refine Ev.congr (fun k => ?_) jT
    unfold epicycleref04_Right.f
    rw [if_pos q0, if_pos q1, hrd, hP, hG, hFF, tmod_pos uP.1, if_neg c1, if_neg c2, if_pos c3]
  have hj := rr_j0 (L := L) (a := i) (P := P) (G := G) (F := F) (by omega) hL uP uG (by omega) hF
  have hfit : decide (fits P G) = decide (2 ≤ G ∧ G < P) := by
    apply decide_eq_decide.2
    unfold fits; omega
  have hcomm : ∀ b c d : Bool, (d && (b && c)) = ((b && true) && (d && c)) := fun b c d => by cases b <;> cases c <;> cases d <;> rfl
  rw [hfit]
  by_cases z : i = 0
  · subst z
    have : (L.take 0).getLast?.map (fun e => e.f0) = none := by simp
    rw [this]
    rw [hcomm] at hj
    refine Ev.congr (fun k => ?_) hj
    unfold epicycleref04_Right.f
    rw [if_pos q0, if_pos q1, hrd, hP, hG, hFF, tmod_pos uP.1, if_neg c1, if_neg c2, if_neg c3, if_neg (show ¬ ((0 : Nat) : Int) > 0 by decide)]
  · have hi1 : i - 1 < L.length := by omega
    have hlast : (L.take i).getLast?.map (fun e => e.f0) = some L[i - 1].f0 := by
      have hlen : (L.take i).length = i := by simp; omega
      rw [List.getLast?_eq_getElem?, hlen, List.getElem?_take_of_lt (by omega), List.getElem?_eq_getElem hi1]
      rfl
    have hrd1 : rd_T71 L ((i : Int) - 1) = L[i - 1] := by
      rw [show (i : Int) - 1 = ((i - 1 : Nat) : Int) by omega]
      unfold rd_T71; simp [List.getD, List.getElem?_eq_getElem hi1]
    have r0 : (i : Int) > 0 := by omega
    have r1 : 0 ≤ (i : Int) - 1 := by omega
    have r2 : (i : Int) - 1 < (L.length : Int) := by omega
    rw [hlast]
    show Ev (fun k => epicycleref04_Right.f k L (i : Int)) ((decide (2 ≤ G ∧ G < P) && decide (L[i - 1].f0 < P)) && (wholeS (has46 (L.take i)) P (F.map p60) && fullS P G (F.map p60)))
    by_cases c4 : L[i - 1].f0 ≥ P
    · have n4 : ¬ L[i - 1].f0 < P := by omega
      rw [decide_eq_false n4, Bool.and_false, Bool.false_and]
      refine Ev.congr (fun k => ?_) jT
      unfold epicycleref04_Right.f
      rw [if_pos q0, if_pos q1, hrd, hP, hG, hFF, tmod_pos uP.1, if_neg c1, if_neg c2, if_neg c3, if_pos r0, w1, if_pos r1, if_pos r2, hrd1, decide_eq_true c4]
    · have n4 : L[i - 1].f0 < P := by omega
      rw [decide_eq_true n4]
      rw [hcomm] at hj
      refine Ev.congr (fun k => ?_) hj
      unfold epicycleref04_Right.f
      rw [if_pos q0, if_pos q1, hrd, hP, hG, hFF, tmod_pos uP.1, if_neg c1, if_neg c2, if_neg c3, if_pos r0, w1, if_pos r1, if_pos r2, hrd1, decide_eq_false c4]
theorem refcheck_l0 {L : List S71} (hok : ∀ e ∈ L.map tri46, okE e) (hL : L.length ≤ 1000) : ∀ (d i : Nat), i + d = L.length → Ev (fun k => epicycleref04_Check.l0 k L (L.length : Int) i) (firstBad (rightAt (L.map tri46)) d i) := by
  intro d
  induction d with
  | zero =>
    intro i hi
    have c : ¬ (i : Int) < (L.length : Int) := by omega
    refine Ev.step (f := fun _ => some (0, 0)) (fun k => ?_) (Ev.now _)
    simp only [epicycleref04_Check.l0]
    rw [if_neg c]
  | succ d ih =>
    intro i hi
    have q1 : (i : Int) < (L.length : Int) := by omega
    have w : wrap64 ((i : Int) + 1) = ((i + 1 : Nat) : Int) := by rw [w64_id _ (by omega) (by omega)]; omega
    have E := rr_ev hok hL (i := i) (by omega)
    have IH := ih (i + 1) (by omega)
    refine Ev.step (f := fun k => (epicycleref04_Right.f k L (i : Int)).bind fun t178 => (if t178 = true then (epicycleref04_Check.l0 k L (L.length : Int) ((i + 1 : Nat) : Int)) else (some ((i : Int), 3)))) (fun k => ?_) (Ev.bind E ?_)
    · simp only [epicycleref04_Check.l0]
      rw [if_pos q1, w]
    · unfold firstBad
      cases rightAt (L.map tri46) i with
      | true => exact evP rfl IH
      | false => exact evN ft (Ev.now _)
theorem refcheck_ev {L : List S71} (hok : ∀ e ∈ L.map tri46, okE e) : Ev (fun k => epicycleref04_Check.f k L) (checkS (L.map tri46)) := by
  unfold checkS
  rw [List.length_map]
  by_cases h : (L.length : Int) > 32
  · rw [if_pos h]
    refine Ev.congr (fun k => ?_) (Ev.now _)
    unfold epicycleref04_Check.f
    rw [if_pos h]
  · rw [if_neg h]
    refine Ev.congr (fun k => ?_) (refcheck_l0 hok (by omega) L.length 0 (by omega))
    unfold epicycleref04_Check.f
    rw [if_neg h]
    rfl
end Go.Proofs.YthnpjjpdlihepaaGreat.XR
end
section
namespace Go.Proofs.YthnpjjpdlihepaaGreat.XK
open Go.RowKit Go.Proofs.YthnpjjpdlihepaaGreat.Given Go.Proofs.YthnpjjpdlihepaaGreat.Row05 Go.Proofs.YthnpjjpdlihepaaGreat.XS Go.Proofs.YthnpjjpdlihepaaGreat.XT Go.Proofs.YthnpjjpdlihepaaGreat.XR Go.Proofs.YthnpjjpdlihepaaGreat.F06 Go.Proofs.YthnpjjpdlihepaaGreatW.PrintWords Go.Proofs.YthnpjjpdlihepaaGreatW.PrintLast Go.Proofs.YthnpjjpdlihepaaGreatW.PrintMore
attribute [local go_sem] max2_int min2_int max_two min_two max_three min_three max_four min_four   -- for this text's walks alone
set_option linter.unusedVariables false
set_option linter.unusedSimpArgs false
noncomputable def field_Small.f (k : Nat) (a0 : Int) : Option ((List (Fld)) × Int) := (sieve_Row.f k a0).bind fun bt101 => (if bt101.2 = 0 then ((field_New.f k bt101.1 a0).bind fun bt105 => (some (bt105.1, bt105.2))) else (some (([] : List (Fld)), bt101.2)))
set_option maxHeartbeats 8000000 in
set_option maxRecDepth 100000 in
theorem field_Small.calls (k : Nat) (a0 : Int) (r1 : List (Fld)) (r2 : Int) (w : World) (h : field_Small.f k a0 = some (r1, r2)) :
  Calls Tryz.prog 28 #[.int .u64 a0] w fun e w' => ∃ v0_ : Value, e = .returned (.tuple #[toPtr v0_, .int .i64 r2]) ∧ Kd.R kFld 59 w' w.heap.size (fun _ => True) v0_ r1 ∧ Below w.heap.size w w' := by
 have HB := Aside0.mk (Below.refl w.heap.size w)
 have H : ((sieve_Row.f k a0).bind fun bt101 => (if bt101.2 = 0 then ((field_New.f k bt101.1 a0).bind fun bt105 => (some (bt105.1, bt105.2))) else (some (([] : List (Fld)), bt101.2)))) = some (r1, r2) := h
 clear h
 replace H := Option.bind_eq_some_iff.mp H
 obtain ⟨⟨t101, t102⟩, A20, H⟩ := H
 replace H : (if t102 = 0 then ((field_New.f k t101 a0).bind fun bt105 => (some (bt105.1, bt105.2))) else (some (([] : List (Fld)), t102))) = some (r1, r2) := H
 have A2 := Aside0.mk A20
 clear A20
 by_cases c3 : t102 = 0
 ·rw [if_pos c3] at H
  have c3b0 : (t102 == 0) = true := beq_iff_eq.mpr c3
  have c3b1 : (t102 != 0) = false := bne_eq_false_iff_eq.mpr c3
  clear c3
  replace H := Option.bind_eq_some_iff.mp H
  obtain ⟨⟨t105, t106⟩, A40, H⟩ := H
  replace H : (some (t105, t106)) = some (r1, r2) := H
  have A4 := Aside0.mk A40
  clear A40
  simp only [Option.some.injEq, Prod.mk.injEq] at H
  obtain ⟨rfl, rfl⟩ := H
  go_enter Tryz.func28, Tryz.ntmps28
  go_wp2_with (first | ((with_reducible refine gate_callee (f := 47) rfl ?_); refine goesL_ (some 8) rfl rfl Tryz.func47 (by kernel_rfl) rfl #[.int .u64 a0] rfl (by (try simp only [List.map_toArray, List.map_cons, List.map_nil]); first | done | rfl | (simp only [List.length_drop, List.length_take]; rfl)) ?_; (with_reducible refine (sieve_Row.calls k a0 t101 t102 _ A2.out).mono ?_); rintro e w5 ⟨v103, rfl, ho0, hb⟩; refine ⟨_, rfl, ?_⟩; have n0_ := Aside0.mk (Kd.S_lower ho0 (below_size (by repeat (first | (with_reducible first | exact HB.out | apply below_alloc | apply pw_below_drewN | apply below_drew1) | exact HB.out)))); have n1_ := Aside0.mk (below_step (by repeat (first | (with_reducible first | exact HB.out | apply below_alloc | apply pw_below_drewN | apply below_drew1) | exact HB.out)) hb); clear HB; have HO104 := n0_; have HB := n1_; clear n0_ n1_; (try clear hb); (try clear hb2); (try clear hk); (try clear hi); (try clear ho0); obtain ⟨Ao6, co6, eo6⟩ := Kd.S_slice HO104.out; subst eo6) | ((with_reducible refine gate_callee (f := 33) rfl ?_); refine goesL_ (some 16) rfl rfl Tryz.func33 (by kernel_rfl) rfl #[.slice Ao6 t101.length co6, .int .u64 a0] rfl (by (try simp only [List.map_toArray, List.map_cons, List.map_nil]); first | done | rfl | (simp only [List.length_drop, List.length_take]; rfl)) ?_; (with_reducible refine (field_New.calls k _ _ t101 a0 t105 t106 _ ?side1 ?side2 A4.out).mono ?_); (case side1 => repeat (first | exact (Kd.S_reads' HO104.out).2.2 | (with_reducible refine Kd.C_alloc ?_ _) | (with_reducible refine Kd.C_drewN ?_ _) | (with_reducible refine Kd.C_drew ?_))); (case side2 => exact (Kd.S_reads' HO104.out).2.1); rintro e w7 ⟨v107, rfl, ho0, hb⟩; refine ⟨_, rfl, ?_⟩; have n0_ := Aside0.mk (Kd.S_below (by (with_reducible repeat (first | apply Kd.S_alloc | apply Kd.S_drewN | apply Kd.S_drew)); exact HO104.out) hb); have n1_ := Aside0.mk (Kd.R_lower ho0 (below_size (by repeat (first | (with_reducible first | exact HB.out | apply below_alloc | apply pw_below_drewN | apply below_drew1) | exact HB.out)))); have n2_ := Aside0.mk (below_step (by repeat (first | (with_reducible first | exact HB.out | apply below_alloc | apply pw_below_drewN | apply below_drew1) | exact HB.out)) hb); clear HO104; clear HB; have HO104 := n0_; have HO108 := n1_; have HB := n2_; clear n0_ n1_ n2_; (try clear hb); (try clear hb2); (try clear hk); (try clear hi); (try clear ho0)))
  go_ret2
  exact ⟨_, by first | rfl | (simp [errW_none, errW_some] <;> rfl) | (simp [*, errW_none, errW_some] <;> rfl), by (with_reducible repeat (first | apply Kd.R_alloc | apply Kd.R_drewN | apply Kd.R_drew)); exact HO108.out, by repeat (first | (with_reducible first | exact HB.out | apply below_alloc | apply pw_below_drewN | apply below_drew1) | exact HB.out)⟩
 ·rw [if_neg c3] at H
  have c3b0 : (t102 == 0) = false := beq_eq_false_iff_ne.mpr c3
  have c3b1 : (t102 != 0) = true := bne_iff_ne.mpr c3
  simp only [Option.some.injEq, Prod.mk.injEq] at H
  obtain ⟨rfl, rfl⟩ := H
  go_enter Tryz.func28, Tryz.ntmps28
  go_wp2_with (first | ((with_reducible refine gate_callee (f := 47) rfl ?_); refine goesL_ (some 8) rfl rfl Tryz.func47 (by kernel_rfl) rfl #[.int .u64 a0] rfl (by (try simp only [List.map_toArray, List.map_cons, List.map_nil]); first | done | rfl | (simp only [List.length_drop, List.length_take]; rfl)) ?_; (with_reducible refine (sieve_Row.calls k a0 t101 t102 _ A2.out).mono ?_); rintro e w8 ⟨v103, rfl, ho0, hb⟩; refine ⟨_, rfl, ?_⟩; have n0_ := Aside0.mk (Kd.S_lower ho0 (below_size (by repeat (first | (with_reducible first | exact HB.out | apply below_alloc | apply pw_below_drewN | apply below_drew1) | exact HB.out)))); have n1_ := Aside0.mk (below_step (by repeat (first | (with_reducible first | exact HB.out | apply below_alloc | apply pw_below_drewN | apply below_drew1) | exact HB.out)) hb); clear HB; have HO104 := n0_; have HB := n1_; clear n0_ n1_; (try clear hb); (try clear hb2); (try clear hk); (try clear hi); (try clear ho0)))
  go_ret2
  exact ⟨(.slice none 0 0), by first | rfl | (simp [errW_none, errW_some] <;> rfl) | (simp [*, errW_none, errW_some] <;> rfl), by first | exact Kd.R_nil _ _ _ _ _ | exact Kd.N_nil _ _ _ _ _ | exact Kd.V_nil _ _ _ _ _ | exact Kd.Q_nil _ _ _ _ _ | exact Kd.S_nil _ _ _ _ _, by repeat (first | (with_reducible first | exact HB.out | apply below_alloc | apply pw_below_drewN | apply below_drew1) | exact HB.out)⟩
noncomputable def field_Known.f (k : Nat) (a0 : Int) : Option ((List (Fld)) × Int) := (field_known.f a0).bind fun bt109 => (if bt109.2 = 0 then (some (([] : List (Fld)), 1)) else ((field_New.f k bt109.1 bt109.2).bind fun bt113 => (some (bt113.1, bt113.2))))
set_option maxHeartbeats 8000000 in
set_option maxRecDepth 100000 in
theorem field_Known.calls (k : Nat) (a0 : Int) (r1 : List (Fld)) (r2 : Int) (w : World) (h : field_Known.f k a0 = some (r1, r2)) :
  Calls Tryz.prog 32 #[.int .i64 a0] w fun e w' => ∃ v0_ : Value, e = .returned (.tuple #[toPtr v0_, .int .i64 r2]) ∧ Kd.R kFld 59 w' w.heap.size (fun _ => True) v0_ r1 ∧ Below w.heap.size w w' := by
 have HB := Aside0.mk (Below.refl w.heap.size w)
 have H : ((field_known.f a0).bind fun bt109 => (if bt109.2 = 0 then (some (([] : List (Fld)), 1)) else ((field_New.f k bt109.1 bt109.2).bind fun bt113 => (some (bt113.1, bt113.2))))) = some (r1, r2) := h
 clear h
 replace H := Option.bind_eq_some_iff.mp H
 obtain ⟨⟨t109, t110⟩, A20, H⟩ := H
 replace H : (if t110 = 0 then (some (([] : List (Fld)), 1)) else ((field_New.f k t109 t110).bind fun bt113 => (some (bt113.1, bt113.2)))) = some (r1, r2) := H
 have A2 := Aside0.mk A20
 clear A20
 by_cases c3 : t110 = 0
 ·rw [if_pos c3] at H
  have c3b0 : (t110 == 0) = true := beq_iff_eq.mpr c3
  have c3b1 : (t110 != 0) = false := bne_eq_false_iff_eq.mpr c3
  clear c3
  simp only [Option.some.injEq, Prod.mk.injEq] at H
  obtain ⟨rfl, rfl⟩ := H
  go_enter Tryz.func32, Tryz.ntmps32
  go_wp2_with (first | ((with_reducible refine gate_callee (f := 52) rfl ?_); refine goesL_ (some 8) rfl rfl Tryz.func52 (by kernel_rfl) rfl #[.int .i64 a0] rfl (by (try simp only [List.map_toArray, List.map_cons, List.map_nil]); first | done | rfl | (simp only [List.length_drop, List.length_take]; rfl)) ?_; (with_reducible refine (field_known.calls a0 t109 t110 _ A2.out).mono ?_); rintro e w4 ⟨v111, rfl, ho0, hb⟩; refine ⟨_, rfl, ?_⟩; have n0_ := Aside0.mk (Kd.S_lower ho0 (below_size (by repeat (first | (with_reducible first | exact HB.out | apply below_alloc | apply pw_below_drewN | apply below_drew1) | exact HB.out)))); have n1_ := Aside0.mk (below_step (by repeat (first | (with_reducible first | exact HB.out | apply below_alloc | apply pw_below_drewN | apply below_drew1) | exact HB.out)) hb); clear HB; have HO112 := n0_; have HB := n1_; clear n0_ n1_; (try clear hb); (try clear hb2); (try clear hk); (try clear hi); (try clear ho0)))
  go_ret2
  exact ⟨(.slice none 0 0), by first | rfl | (simp [errW_none, errW_some] <;> rfl) | (simp [*, errW_none, errW_some] <;> rfl), by first | exact Kd.R_nil _ _ _ _ _ | exact Kd.N_nil _ _ _ _ _ | exact Kd.V_nil _ _ _ _ _ | exact Kd.Q_nil _ _ _ _ _ | exact Kd.S_nil _ _ _ _ _, by repeat (first | (with_reducible first | exact HB.out | apply below_alloc | apply pw_below_drewN | apply below_drew1) | exact HB.out)⟩
 ·rw [if_neg c3] at H
  have c3b0 : (t110 == 0) = false := beq_eq_false_iff_ne.mpr c3
  have c3b1 : (t110 != 0) = true := bne_iff_ne.mpr c3
  replace H := Option.bind_eq_some_iff.mp H
  obtain ⟨⟨t113, t114⟩, A50, H⟩ := H
  replace H : (some (t113, t114)) = some (r1, r2) := H
  have A5 := Aside0.mk A50
  clear A50
  simp only [Option.some.injEq, Prod.mk.injEq] at H
  obtain ⟨rfl, rfl⟩ := H
  go_enter Tryz.func32, Tryz.ntmps32
  go_wp2_with (first | ((with_reducible refine gate_callee (f := 52) rfl ?_); refine goesL_ (some 8) rfl rfl Tryz.func52 (by kernel_rfl) rfl #[.int .i64 a0] rfl (by (try simp only [List.map_toArray, List.map_cons, List.map_nil]); first | done | rfl | (simp only [List.length_drop, List.length_take]; rfl)) ?_; (with_reducible refine (field_known.calls a0 t109 t110 _ A2.out).mono ?_); rintro e w6 ⟨v111, rfl, ho0, hb⟩; refine ⟨_, rfl, ?_⟩; have n0_ := Aside0.mk (Kd.S_lower ho0 (below_size (by repeat (first | (with_reducible first | exact HB.out | apply below_alloc | apply pw_below_drewN | apply below_drew1) | exact HB.out)))); have n1_ := Aside0.mk (below_step (by repeat (first | (with_reducible first | exact HB.out | apply below_alloc | apply pw_below_drewN | apply below_drew1) | exact HB.out)) hb); clear HB; have HO112 := n0_; have HB := n1_; clear n0_ n1_; (try clear hb); (try clear hb2); (try clear hk); (try clear hi); (try clear ho0); obtain ⟨Ao7, co7, eo7⟩ := Kd.S_slice HO112.out; subst eo7) | ((with_reducible refine gate_callee (f := 33) rfl ?_); refine goesL_ (some 15) rfl rfl Tryz.func33 (by kernel_rfl) rfl #[.slice Ao7 t109.length co7, .int .u64 t110] rfl (by (try simp only [List.map_toArray, List.map_cons, List.map_nil]); first | done | rfl | (simp only [List.length_drop, List.length_take]; rfl)) ?_; (with_reducible refine (field_New.calls k _ _ t109 t110 t113 t114 _ ?side1 ?side2 A5.out).mono ?_); (case side1 => repeat (first | exact (Kd.S_reads' HO112.out).2.2 | (with_reducible refine Kd.C_alloc ?_ _) | (with_reducible refine Kd.C_drewN ?_ _) | (with_reducible refine Kd.C_drew ?_))); (case side2 => exact (Kd.S_reads' HO112.out).2.1); rintro e w8 ⟨v115, rfl, ho0, hb⟩; refine ⟨_, rfl, ?_⟩; have n0_ := Aside0.mk (Kd.S_below (by (with_reducible repeat (first | apply Kd.S_alloc | apply Kd.S_drewN | apply Kd.S_drew)); exact HO112.out) hb); have n1_ := Aside0.mk (Kd.R_lower ho0 (below_size (by repeat (first | (with_reducible first | exact HB.out | apply below_alloc | apply pw_below_drewN | apply below_drew1) | exact HB.out)))); have n2_ := Aside0.mk (below_step (by repeat (first | (with_reducible first | exact HB.out | apply below_alloc | apply pw_below_drewN | apply below_drew1) | exact HB.out)) hb); clear HO112; clear HB; have HO112 := n0_; have HO116 := n1_; have HB := n2_; clear n0_ n1_ n2_; (try clear hb); (try clear hb2); (try clear hk); (try clear hi); (try clear ho0)))
  go_ret2
  exact ⟨_, by first | rfl | (simp [errW_none, errW_some] <;> rfl) | (simp [*, errW_none, errW_some] <;> rfl), by (with_reducible repeat (first | apply Kd.R_alloc | apply Kd.R_drewN | apply Kd.R_drew)); exact HO116.out, by repeat (first | (with_reducible first | exact HB.out | apply below_alloc | apply pw_below_drewN | apply below_drew1) | exact HB.out)⟩
end Go.Proofs.YthnpjjpdlihepaaGreat.XK
end
section
namespace Go.Proofs.YthnpjjpdlihepaaGreat.F06
open Go Go.RowKit Go.Proofs.YthnpjjpdlihepaaGreatW.PrintWords Go.Proofs.YthnpjjpdlihepaaGreatW.PrintLast Go.Proofs.YthnpjjpdlihepaaGreatW.PrintMore Go.Proofs.YthnpjjpdlihepaaGreat.Given Go.Proofs.YthnpjjpdlihepaaGreat.M Go.Proofs.YthnpjjpdlihepaaGreat.Mont Go.Proofs.YthnpjjpdlihepaaGreat.XS Go.Proofs.YthnpjjpdlihepaaGreat.XT Go.Proofs.YthnpjjpdlihepaaGreat.XR Go.Proofs.YthnpjjpdlihepaaGreat.Given04 Go.Proofs.YthnpjjpdlihepaaGreat.Given05 Go.Proofs.YthnpjjpdlihepaaGreat.Num
open Go.Proofs.YthnpjjpdlihepaaGreat.XK
open Go.Proofs.YthnpjjpdlihepaaGreat.Row05 (OddN gen facs entS row_ev row_not row_check row_okE gen_least)
abbrev PE := S57
abbrev RE := S71
def GoodFld (F : Fld) : Prop := ∃ (A : Int → Bool) (prev : Option Int), rightS A prev F.p F.g (F.l.map p59) = true ∧ Ordered F.p F.g ∧ okE (F.p, F.g, F.l.map p59)
theorem Ev.unique {α : Type} {g : Nat → Option α} {r s : α} (h : Ev g r) (h' : Ev g s) : r = s := by
  obtain ⟨K, h⟩ := h
  obtain ⟨K', h'⟩ := h'
  have h1 := h (max K K') (Nat.le_max_left _ _)
  have h2 := h' (max K K') (Nat.le_max_right _ _)
  rw [h1] at h2
  exact Option.some.inj h2
theorem rdE_drop {R : List PE} {i : Nat} {x : PE} {l : List PE} (h : R.drop i = x :: l) : rd_T57 R (i : Int) = x ∧ i < R.length ∧ R.drop (i + 1) = l := by
  have hlt : i < R.length := by
    refine Classical.byContradiction fun c => ?_
    rw [List.drop_of_length_le (by omega)] at h
    cases h
  rw [List.drop_eq_getElem_cons hlt] at h
  injection h with h1 h2
  refine ⟨?_, hlt, h2⟩
  unfold rd_T57
  simp [List.getD, List.getElem?_eq_getElem hlt, h1]
def foundP (R : List PE) (p : Int) : Int × Int × List S84 × Bool :=
  match R.find? (fun e => e.f0 == p) with
  | some e => (e.f0, e.f1, e.f2, true)
  | none => (0, 0, [], false)
theorem claimP_l0 {R : List PE} {p : Int} (hL : R.length ≤ 1000) (hs : ∀ e ∈ R, e.f2.length ≤ 1000000) (l : List PE) : ∀ i : Nat, R.drop i = l →
    Ev (fun k => proof_Claim.l0 k p R (R.length : Int) i) (foundP l p) := by
  induction l with
  | nil =>
    intro i hd
    have : R.length ≤ i := by have := congrArg List.length hd; simp at this; omega
    have c : ¬ (i : Int) < (R.length : Int) := by omega
    refine Ev.step (f := fun _ => some (0, 0, [], false)) (fun k => ?_) (Ev.now _)
    simp only [proof_Claim.l0]
    rw [if_neg c]
  | cons x l ih =>
    intro i hd
    obtain ⟨hx, hlt, hd'⟩ := rdE_drop hd
    have hxm : x ∈ R := List.mem_of_mem_drop (show x ∈ R.drop i by rw [hd]; exact List.mem_cons_self)
    have c : (i : Int) < (R.length : Int) := by omega
    have c0 : 0 ≤ (i : Int) := by omega
    have w : wrap64 ((i : Int) + 1) = ((i + 1 : Nat) : Int) := by rw [w64_id _ (by omega) (by omega)]; omega
    have hcl := hs x hxm
    by_cases h : x.f0 = p
    · have e : foundP (x :: l) p = (x.f0, x.f1, x.f2, true) := by unfold foundP; rw [List.find?_cons, beq_iff_eq.2 h]
      rw [e]
      refine Ev.step (f := fun _ => some (x.f0, x.f1, x.f2, true)) (fun k => ?_) (Ev.now _)
      simp only [proof_Claim.l0]
      rw [if_pos c, if_pos c0, if_pos c, hx, if_pos h, proof_Power.f, if_pos hcl, Option.bind_some]
    · have e : foundP (x :: l) p = foundP l p := by unfold foundP; rw [List.find?_cons, beq_eq_false_iff_ne.2 h]
      rw [e]
      refine Ev.step (fun k => ?_) (ih (i + 1) hd')
      simp only [proof_Claim.l0]
      rw [if_pos c, if_pos c0, if_pos c, hx, if_neg h, w]
theorem check_facts {R : List PE} (h : (checkS (R.map tri)).2 = 0) : (∀ j, j < R.length → rightAt (R.map tri) j = true) ∧ R.length ≤ 32 := by
  unfold checkS at h
  rw [List.length_map] at h
  split at h
  · exact absurd h (by decide)
  · exact ⟨fun j hj => firstBad_ok _ 0 h j (by omega) (by omega), by omega⟩
theorem whole_short {A : Int → Bool} {P : Int} {l : List (Int × Int)} (h : wholeS A P l = true) : l.length ≤ 16 := by
  cases l with
  | nil => simp
  | cons x t =>
    rw [wholeS_cons] at h
    simp only [Bool.and_eq_true, decide_eq_true_eq] at h
    exact h.1.1.1
theorem entry_good {R : List PE} (hok : ∀ e ∈ R.map tri, okE e) (h : (checkS (R.map tri)).2 = 0) {e : PE} (he : e ∈ R) : GoodFld ⟨e.f0, e.f1, e.f2⟩ := by
  obtain ⟨i, hi, rfl⟩ := List.mem_iff_getElem.1 he
  have hr := (check_facts h).1 i hi
  have hg : (R.map tri)[i]? = some (tri R[i]) := by rw [List.getElem?_map, List.getElem?_eq_getElem hi]; rfl
  unfold rightAt at hr
  rw [hg] at hr
  exact ⟨_, _, hr, check_ordered h hg, hok _ (List.mem_map_of_mem (List.getElem_mem hi))⟩
theorem GoodFld.fits {F : Fld} (h : GoodFld F) : fits F.p F.g := by
  obtain ⟨A, prev, h, _⟩ := h
  unfold rightS at h
  simp only [Bool.and_eq_true, decide_eq_true_eq] at h
  exact h.1.1
theorem GoodFld.m {F : Fld} (h : GoodFld F) : GoodM F.p := ⟨h.fits.1, h.fits.2.1, h.fits.2.2.1⟩
theorem GoodFld.ord {F : Fld} (h : GoodFld F) : Ordered F.p F.g := by
  obtain ⟨A, prev, _, h, _⟩ := h
  exact h
theorem GoodFld.whole {F : Fld} (h : GoodFld F) : ∃ A, wholeS A F.p (F.l.map p59) = true := by
  obtain ⟨A, prev, h, _⟩ := h
  unfold rightS at h
  simp only [Bool.and_eq_true] at h
  exact ⟨A, h.2.1⟩
theorem GoodFld.short {F : Fld} (h : GoodFld F) : F.l.length ≤ 16 := by
  obtain ⟨A, h⟩ := h.whole
  have := whole_short h
  rwa [List.length_map] at this
theorem GoodFld.uG {F : Fld} (h : GoodFld F) : U F.g := by
  obtain ⟨_, _, _, _, _, h, _⟩ := h
  exact h
def newS (R : List PE) (p : Int) : List Fld × Int :=
  if (checkS (R.map tri)).2 = 0 then (match R.find? (fun e => e.f0 == p) with | some e => ([⟨e.f0, e.f1, e.f2⟩], 0) | none => ([], 14)) else ([], (checkS (R.map tri)).2)
theorem new_ev {R : List PE} (hok : ∀ e ∈ R.map tri, okE e) (p : Int) : Ev (fun k => field_New.f k R p) (newS R p) := by
  have C := check_ev R hok
  refine Ev.congr (fun k => rfl) (Ev.bind C ?_)
  unfold newS
  by_cases hz : (checkS (R.map tri)).2 = 0
  · rw [if_pos hz]
    refine evP hz ?_
    obtain ⟨hr, hl⟩ := check_facts hz
    have hs : ∀ e ∈ R, e.f2.length ≤ 1000000 := fun e he => by
      have := (entry_good hok hz he).short
      have : e.f2.length ≤ 16 := this
      omega
    refine Ev.bind (Ev.congr (f := fun k => (proof_Check.f k R).bind fun c => if c.2 = 0 then proof_Claim.l0 k p R (R.length : Int) 0 else some (0, 0, [], false)) (fun k => rfl) (Ev.bind C (evP hz (claimP_l0 (by omega) hs R 0 rfl)))) ?_
    unfold foundP
    cases hf : R.find? (fun e => e.f0 == p) with
    | none => exact evN (by simp) (Ev.now _)
    | some e =>
      have he := List.mem_of_find?_eq_some hf
      have hp : e.f0 = p := by have := List.find?_some hf; simpa using this
      have hg := entry_good hok hz he
      refine evP rfl (evP ⟨hp, ?_, ?_⟩ (Ev.now _))
      · rw [← hp]; exact hg.m
      · exact hg.uG
  · rw [if_neg hz]
    exact evN hz (Ev.now _)
theorem newS_cases {R : List PE} (hok : ∀ e ∈ R.map tri, okE e) (p : Int) : (∃ e, e ≠ 0 ∧ newS R p = ([], e)) ∨ ∃ F, newS R p = ([F], 0) ∧ GoodFld F ∧ F.p = p := by
  unfold newS
  by_cases hz : (checkS (R.map tri)).2 = 0
  · rw [if_pos hz]
    cases hf : R.find? (fun e => e.f0 == p) with
    | none => exact .inl ⟨14, by decide, rfl⟩
    | some e =>
      have he := List.mem_of_find?_eq_some hf
      have hp : e.f0 = p := by have := List.find?_some hf; simpa using this
      exact .inr ⟨_, rfl, entry_good hok hz he, hp⟩
  · rw [if_neg hz]
    exact .inl ⟨_, hz, rfl⟩
theorem row_checkS {p : Nat} {ss : List Nat} (h : Row05.Rows p ss) : checkS ((ss.map entS).map tri) = (0, 0) :=
  Ev.unique (check_ev (ss.map entS) (row_okE h)) (row_check h)
theorem small_new {p : Nat} {ss : List Nat} (h : Row05.Rows p ss) : newS (ss.map entS) (p : Int) = ([⟨(p : Int), (gen p : Int), m33 (facs p)⟩], 0) := by
  unfold newS
  rw [row_checkS h, if_pos rfl]
  cases hf : (ss.map entS).find? (fun e => e.f0 == (p : Int)) with
  | none =>
    have := List.find?_eq_none.1 hf (entS p) (List.mem_map_of_mem h.mem)
    exact absurd (beq_self_eq_true ((p : Int))) this
  | some e =>
    have he := List.mem_of_find?_eq_some hf
    have hp := List.find?_some hf
    obtain ⟨q, hq, rfl⟩ := List.mem_map.1 he
    have hp : ((q : Int) == (p : Int)) = true := hp
    rw [beq_iff_eq] at hp
    obtain rfl : q = p := by omega
    rfl
open Classical in
theorem small_odd {x : Int} (h : OddP x) : ∃ F, Ev (fun k => field_Small.f k x) ([F], 0) ∧ Ev (fun k => epicycleref05_Generator.f k x) F.g ∧ F.p = x ∧ GoodFld F := by
  obtain ⟨p, rfl⟩ : ∃ p : Nat, x = p := ⟨x.toNat, by have := h.1; omega⟩
  have hn := OddN.of h
  obtain ⟨ss, hr, R⟩ := row_ev hn
  have hnew := small_new hr
  have E := new_ev (row_okE hr) (p : Int)
  rcases newS_cases (row_okE hr) (p : Int) with ⟨e, he, h1⟩ | ⟨F, h1, hg, hp⟩
  · rw [hnew] at h1; injection h1 with h1 _; cases h1
  · rw [h1] at hnew E
    injection hnew with h2 _
    injection h2 with h2 _
    refine ⟨F, Ev.congr (fun k => rfl) (Ev.bind R (evP rfl (Ev.bind E (Ev.now _)))), ?_, hp, hg⟩
    rw [h2]
    exact rGenerator_odd h (gen_least hn)
theorem small_not {x : Int} (h : ¬ OddP x) : Ev (fun k => field_Small.f k x) ([], 1) :=
  Ev.congr (fun k => rfl) (Ev.bind (row_not h) (evN (by decide) (Ev.now _)))
def powm (P : Nat) : Nat → Nat → Nat → Nat
  | 0, _, _ => 1 % P
  | n + 1, g, e => if e = 0 then 1 % P else if e % 2 = 1 then g * powm P n (g * g % P) (e / 2) % P else powm P n (g * g % P) (e / 2)
theorem powm_eq {P : Nat} (n : Nat) : ∀ g e, e < 2 ^ n → powm P n g e = g ^ e % P := by
  induction n with
  | zero => intro g e h; have : e = 0 := by simpa using h
            subst this; rfl
  | succ n ih =>
    intro g e h
    unfold powm
    have hq : e / 2 < 2 ^ n := by rw [Nat.pow_succ] at h; omega
    have hs : (g * g % P) ^ (e / 2) % P = g ^ (2 * (e / 2)) % P := by rw [← Nat.pow_mod, ← Nat.pow_two, ← Nat.pow_mul]
    split
    · next h0 => subst h0; rfl
    · split
      · next h1 =>
        rw [ih _ _ hq, hs, Nat.mul_mod, Nat.mod_mod, ← Nat.mul_mod, ← Nat.pow_succ', show (2 * (e / 2)).succ = e by omega]
      · next h1 => rw [ih _ _ hq, hs, show 2 * (e / 2) = e by omega]
def fullQ (P G : Nat) (l : List Nat) : Bool := (powm P 64 G (P - 1) == 1) && !(l.any fun x => powm P 64 G ((P - 1) / x) == 1)
theorem pow_castq {G P n : Nat} : (((G : Int) ^ n % (P : Int)) == 1) = (G ^ n % P == 1) := by
  rw [Bool.eq_iff_iff, beq_iff_eq, beq_iff_eq]
  exact pow_cast G P n
theorem fullQ_S {P G : Nat} {l : List (Nat × Nat)} (h1 : 1 ≤ P) (hP : P < 9223372036854775808) (h : fullQ P G (l.map (·.1)) = true) : fullS (P : Int) (G : Int) (l.map fun x => ((x.1 : Int), (x.2 : Int))) = true := by
  unfold fullQ at h
  unfold fullS
  have e1 : ((P : Int) - 1).toNat = P - 1 := by omega
  have c : (fun x : Nat × Nat => powm P 64 G ((P - 1) / x.1) == 1) = fun x : Nat × Nat => ((G : Int) ^ (((P : Int) - 1) / (x.1 : Int)).toNat % (P : Int) == 1) := by
    funext x
    have : ((P : Int) - 1) / (x.1 : Int) = (((P - 1) / x.1 : Nat) : Int) := by rw [Int.natCast_ediv]; congr 1; omega
    rw [this, Int.toNat_natCast, pow_castq, powm_eq 64 _ _ (Nat.lt_of_le_of_lt (Nat.div_le_self _ _) (by omega))]
  rw [List.any_map] at h
  rw [e1, pow_castq, List.any_map, ← powm_eq 64 _ _ (by omega)]
  simp only [Function.comp_def] at h ⊢
  rw [← c]
  exact h
def rightQ (L : List PE) (i : Nat) : Bool :=
  match L[i]? with
  | none => false
  | some e => (decide (fits e.f0 e.f1) && (match ((L.map tri).take i).getLast?.map fun a => a.1 with | none => true | some q => decide (q < e.f0))) && (wholeS (fun q => ((L.map tri).take i).any fun a => a.1 == q) e.f0 (e.f2.map p59) && (fullQ e.f0.toNat e.f1.toNat (e.f2.map fun x => x.f0.toNat) && decide (∀ x ∈ e.f2, 0 ≤ x.f0 ∧ 0 ≤ x.f1)))
theorem rightQ_S {L : List PE} {i : Nat} (h : rightQ L i = true) : rightAt (L.map tri) i = true := by
  unfold rightQ at h
  unfold rightAt
  rw [List.getElem?_map]
  cases he : L[i]? with
  | none => rw [he] at h; cases h
  | some e =>
    rw [he] at h
    simp only [Bool.and_eq_true] at h
    obtain ⟨⟨h1, h2⟩, h3, h4, h5⟩ := h
    have hf : fits e.f0 e.f1 := of_decide_eq_true h1
    unfold fits at hf
    have h5 := of_decide_eq_true h5
    show rightS _ _ e.f0 e.f1 (e.f2.map p59) = true
    unfold rightS
    rw [h1, h3, Bool.true_and, Bool.true_and]
    refine Bool.and_eq_true_iff.2 ⟨h2, ?_⟩
    have := fullQ_S (P := e.f0.toNat) (G := e.f1.toNat) (l := e.f2.map fun x => (x.f0.toNat, x.f1.toNat)) (by omega) (by omega) (by rw [List.map_map]; exact h4)
    rw [Int.toNat_of_nonneg (by omega), Int.toNat_of_nonneg (by omega), List.map_map] at this
    rw [← this]
    congr 1
    refine List.map_congr_left fun x hx => ?_
    obtain ⟨a, b⟩ := h5 x hx
    show (x.f0, x.f1) = (((x.f0.toNat : Nat) : Int), ((x.f1.toNat : Nat) : Int))
    rw [Int.toNat_of_nonneg a, Int.toNat_of_nonneg b]
theorem firstBad_all {r : Nat → Bool} : ∀ (d i : Nat), (∀ j, i ≤ j → j < i + d → r j = true) → firstBad r d i = (0, 0)
  | 0, _, _ => rfl
  | d + 1, i, h => by
    unfold firstBad
    rw [h i (by omega) (by omega), if_pos rfl]
    exact firstBad_all d (i + 1) fun j h1 h2 => h j (by omega) (by omega)
def okQ (e : PE) : Bool := decide (U e.f0) && (decide (U e.f1) && decide (∀ x ∈ e.f2, U x.f0 ∧ -9223372036854775808 ≤ x.f1 ∧ x.f1 < 9223372036854775808))
theorem okQ_E {L : List PE} (h : L.all okQ = true) : ∀ e ∈ L.map tri, okE e := by
  intro e he
  obtain ⟨x, hx, rfl⟩ := List.mem_map.1 he
  have := List.all_eq_true.1 h x hx
  unfold okQ at this
  simp only [Bool.and_eq_true, decide_eq_true_eq] at this
  refine ⟨this.1, this.2.1, fun y hy => ?_⟩
  obtain ⟨z, hz, rfl⟩ := List.mem_map.1 hy
  exact this.2.2 z hz
theorem known_at {L : List PE} {p g : Int} {l : List S84} (hn : L.length ≤ 32) (hr : (List.range L.length).all (rightQ L) = true) (hok : L.all okQ = true) (hf : L.find? (fun e => e.f0 == p) = some ⟨p, g, l⟩) :
    Ev (fun k => field_New.f k L p) ([⟨p, g, l⟩], 0) ∧ GoodFld ⟨p, g, l⟩ := by
  have hz : checkS (L.map tri) = (0, 0) := by
    unfold checkS
    rw [List.length_map, if_neg (by omega)]
    refine firstBad_all _ _ fun j _ hj => rightQ_S ?_
    exact List.all_eq_true.1 hr j (List.mem_range.2 (by omega))
  have e : newS L p = ([⟨p, g, l⟩], 0) := by
    unfold newS
    rw [hz, if_pos rfl, hf]
  have E := new_ev (okQ_E hok) p
  rw [e] at E
  exact ⟨E, entry_good (okQ_E hok) (by rw [hz]) (List.mem_of_find?_eq_some hf)⟩
theorem known_ev {i : Int} (h0 : 0 ≤ i) (h5 : i ≤ 5) : ∃ F, Ev (fun k => field_Known.f k i) ([F], 0) ∧ knownT i = (F.p, F.g, 0) ∧ GoodFld F := by
  have go : ∀ {L : List PE} {p g : Int} {l : List S84}, field_known.f i = some (L, p) → ¬ p = 0 → knownT i = (p, g, 0) → L.length ≤ 32 → (List.range L.length).all (rightQ L) = true → L.all okQ = true → L.find? (fun e => e.f0 == p) = some ⟨p, g, l⟩ → ∃ F, Ev (fun k => field_Known.f k i) ([F], 0) ∧ knownT i = (F.p, F.g, 0) ∧ GoodFld F := by
    intro L p g l hk hp hT hn hr hok hf
    obtain ⟨E, hg⟩ := known_at hn hr hok hf
    refine ⟨⟨p, g, l⟩, ?_, hT, hg⟩
    refine Ev.congr (f := fun k => (field_New.f k L p).bind fun r => some (r.1, r.2)) (fun k => ?_) (Ev.bind E (Ev.now _))
    unfold field_Known.f
    rw [hk]
    simp only [Option.bind_some]
    rw [if_neg hp]
  rcases (show i = 0 ∨ i = 1 ∨ i = 2 ∨ i = 3 ∨ i = 4 ∨ i = 5 by omega) with rfl | rfl | rfl | rfl | rfl | rfl
  · exact go (L := known0) (p := 4179340454199820289) (g := 3) (l := [⟨2, 57⟩, ⟨29, 1⟩]) rfl (by decide) rfl (by decide) (by decide +kernel) (by decide +kernel) rfl
  · exact go (L := known1) (p := 1945555039024054273) (g := 5) (l := [⟨2, 56⟩, ⟨3, 3⟩]) rfl (by decide) rfl (by decide) (by decide +kernel) (by decide +kernel) rfl
  · exact go (L := known2) (p := 180143985094819841) (g := 6) (l := [⟨2, 55⟩, ⟨5, 1⟩]) rfl (by decide) rfl (by decide) (by decide +kernel) (by decide +kernel) rfl
  · exact go (L := known3) (p := 754974721) (g := 11) (l := [⟨2, 24⟩, ⟨3, 2⟩, ⟨5, 1⟩]) rfl (by decide) rfl (by decide) (by decide +kernel) (by decide +kernel) rfl
  · exact go (L := known4) (p := 469762049) (g := 3) (l := [⟨2, 26⟩, ⟨7, 1⟩]) rfl (by decide) rfl (by decide) (by decide +kernel) (by decide +kernel) rfl
  · exact go (L := known5) (p := 167772161) (g := 3) (l := [⟨2, 25⟩, ⟨5, 1⟩]) rfl (by decide) rfl (by decide) (by decide +kernel) (by decide +kernel) rfl
theorem known_not {i : Int} (h : ¬ (0 ≤ i ∧ i ≤ 5)) : Ev (fun k => field_Known.f k i) ([], 1) := by
  have hk : field_known.f i = some ([], 0) := by
    unfold field_known.f
    rw [if_neg (by omega), if_neg (by omega), if_neg (by omega), if_neg (by omega), if_neg (by omega), if_neg (by omega)]
  refine Ev.congr (f := fun _ => some ([], 1)) (fun k => ?_) (Ev.now _)
  unfold field_Known.f
  rw [hk]
  rfl
def ofNew (L : List RE) (p : Int) : Int × Int × Int :=
  if (L.length : Int) > 40 then (0, 0, 13) else if (L.any fun e => decide ((e.f2.length : Int) > 20)) = true then (0, 0, 3) else
    if (checkS (L.map tri46)).2 = 0 then (match L.find? (fun e => e.f0 == p) with | some e => (e.f0, e.f1, 0) | none => (0, 0, 14)) else (0, 0, (checkS (L.map tri46)).2)
theorem of_l1 {L M : List RE} {p a b : Int} (hL : L.length ≤ 1000) (l : List RE) : ∀ i : Nat, L.drop i = l →
    Ev (fun k => XO.epicycleref06_Of.l1 k L (L.length : Int) i a b p M) (match l.find? (fun e => e.f0 == p) with | some e => (e.f0, e.f1, 0) | none => (0, 0, 14)) := by
  induction l with
  | nil =>
    intro i hd
    have : L.length ≤ i := by have := congrArg List.length hd; simp at this; omega
    have c : ¬ (i : Int) < (L.length : Int) := by omega
    refine Ev.step (f := fun _ => some (0, 0, 14)) (fun k => ?_) (Ev.now _)
    simp only [XO.epicycleref06_Of.l1]
    rw [if_neg c]
  | cons x l ih =>
    intro i hd
    obtain ⟨hx, hlt, hd'⟩ := rd46_drop hd
    have c : (i : Int) < (L.length : Int) := by omega
    have c0 : 0 ≤ (i : Int) := by omega
    have w : wrap64 ((i : Int) + 1) = ((i + 1 : Nat) : Int) := by rw [w64_id _ (by omega) (by omega)]; omega
    by_cases h : x.f0 = p
    · rw [List.find?_cons, beq_iff_eq.2 h]
      refine Ev.step (f := fun _ => some (x.f0, x.f1, 0)) (fun k => ?_) (Ev.now _)
      simp only [XO.epicycleref06_Of.l1]
      rw [if_pos c, if_pos c0, if_pos c, hx, if_pos h]
    · rw [List.find?_cons, beq_eq_false_iff_ne.2 h]
      refine Ev.step (fun k => ?_) (ih (i + 1) hd')
      simp only [XO.epicycleref06_Of.l1]
      rw [if_pos c, if_pos c0, if_pos c, hx, if_neg h, w]
theorem of_l0 {L M : List RE} {p a b : Int} {r : Int × Int × Int} (hL : L.length ≤ 1000) (E : Ev (fun k => (epicycleref04_Check.f k M).bind fun c => if c.2 = 0 then XO.epicycleref06_Of.l1 k M (M.length : Int) 0 a b p M else some (0, 0, c.2)) r) (l : List RE) : ∀ i : Nat, L.drop i = l →
    Ev (fun k => XO.epicycleref06_Of.l0 k L (L.length : Int) i a b p M) (if (l.any fun e => decide ((e.f2.length : Int) > 20)) = true then (0, 0, 3) else r) := by
  induction l with
  | nil =>
    intro i hd
    have : L.length ≤ i := by have := congrArg List.length hd; simp at this; omega
    have c : ¬ (i : Int) < (L.length : Int) := by omega
    rw [if_neg (by simp)]
    refine Ev.step (fun k => ?_) E
    simp only [XO.epicycleref06_Of.l0]
    rw [if_neg c]
  | cons x l ih =>
    intro i hd
    obtain ⟨hx, hlt, hd'⟩ := rd46_drop hd
    have c : (i : Int) < (L.length : Int) := by omega
    have c0 : 0 ≤ (i : Int) := by omega
    have w : wrap64 ((i : Int) + 1) = ((i + 1 : Nat) : Int) := by rw [w64_id _ (by omega) (by omega)]; omega
    by_cases h : (x.f2.length : Int) > 20
    · rw [List.any_cons, decide_eq_true h, Bool.true_or, if_pos rfl]
      refine Ev.step (f := fun _ => some (0, 0, 3)) (fun k => ?_) (Ev.now _)
      simp only [XO.epicycleref06_Of.l0]
      rw [if_pos c, if_pos c0, if_pos c, hx, if_pos h]
    · rw [List.any_cons, decide_eq_false h, Bool.false_or]
      refine Ev.step (fun k => ?_) (ih (i + 1) hd')
      simp only [XO.epicycleref06_Of.l0]
      rw [if_pos c, if_pos c0, if_pos c, hx, if_neg h, w]
theorem ofNew_ev {L : List RE} (hL : okRow L) {kind K p : Int} (h0 : ¬ kind = 0) (h1 : ¬ kind = 1) : Ev (fun k => epicycleref06_Of.f k kind K p L) (ofNew L p) := by
  have c : ¬ (kind = 1 ∧ 0 ≤ K ∧ K ≤ 5) := fun h => h1 h.1
  refine Ev.congr (f := fun k => if (L.length : Int) > 40 then some (0, 0, 13) else XO.epicycleref06_Of.l0 k L (L.length : Int) 0 kind K p L) (fun k => ?_) ?_
  · unfold epicycleref06_Of.f XO.epicycleref06_Of.f
    rw [if_neg c, if_neg h0, if_neg h1]
  unfold ofNew
  by_cases h : (L.length : Int) > 40
  · rw [if_pos h]; exact evP h (Ev.now _)
  · rw [if_neg h]
    refine evN h (of_l0 (by omega) ?_ L 0 rfl)
    refine Ev.bind (refcheck_ev hL.2) ?_
    by_cases hz : (checkS (L.map tri46)).2 = 0
    · rw [if_pos hz]; exact evP hz (of_l1 (by omega) L 0 rfl)
    · rw [if_neg hz]; exact evN hz (Ev.now _)
theorem new_of {L : List RE} (hL : okRow L) (p : Int) : (∃ e, e ≠ 0 ∧ newS (L.map cE) p = ([], e) ∧ ∃ e', e' ≠ 0 ∧ ofNew L p = (0, 0, e') ∧ ((L.length : Int) ≤ 40 → (∀ x ∈ L, (x.f2.length : Int) ≤ 20) → e' = e)) ∨ ∃ F, newS (L.map cE) p = ([F], 0) ∧ ofNew L p = (F.p, F.g, 0) ∧ GoodFld F ∧ (L.length : Int) ≤ 40 := by
  have hm := map_tri L
  have hok : ∀ e ∈ (L.map cE).map tri, okE e := by rw [hm]; exact hL.2
  have key : newS (L.map cE) p = if (checkS (L.map tri46)).2 = 0 then (match L.find? (fun e => e.f0 == p) with | some e => ([⟨e.f0, e.f1, e.f2.map cF⟩], 0) | none => ([], 14)) else ([], (checkS (L.map tri46)).2) := by
    unfold newS
    rw [hm, List.find?_map]
    have : ((fun e : PE => e.f0 == p) ∘ cE) = fun e : RE => e.f0 == p := rfl
    rw [this]
    cases L.find? (fun e => e.f0 == p) <;> rfl
  by_cases hz : (checkS (L.map tri46)).2 = 0
  · have hz' : (checkS ((L.map cE).map tri)).2 = 0 := by rw [hm]; exact hz
    have hl := (check_facts hz').2
    rw [List.length_map] at hl
    have hs : ∀ e ∈ L, (e.f2.length : Int) ≤ 20 := fun e he => by
      have := (entry_good hok hz' (List.mem_map_of_mem he)).short
      have : (e.f2.map cF).length ≤ 16 := this
      rw [List.length_map] at this
      omega
    have ho : ofNew L p = (match L.find? (fun e => e.f0 == p) with | some e => (e.f0, e.f1, 0) | none => (0, 0, 14)) := by
      unfold ofNew
      rw [if_neg (by omega), if_neg, if_pos hz]
      rw [Bool.not_eq_true, List.any_eq_false]
      intro e he
      have := hs e he
      simp only [decide_eq_true_eq]; omega
    rw [if_pos hz] at key
    cases hf : L.find? (fun e => e.f0 == p) with
    | none =>
      rw [hf] at ho key
      exact .inl ⟨14, by decide, key, 14, by decide, ho, fun _ _ => rfl⟩
    | some e =>
      rw [hf] at ho key
      exact .inr ⟨_, key, ho, entry_good hok hz' (List.mem_map_of_mem (List.mem_of_find?_eq_some hf)), by omega⟩
  · rw [if_neg hz] at key
    refine .inl ⟨_, hz, key, ?_⟩
    unfold ofNew
    split
    · next h => exact ⟨13, by decide, rfl, fun h' => absurd h' (by omega)⟩
    · split
      · next h =>
        refine ⟨3, by decide, rfl, fun _ h' => ?_⟩
        rw [List.any_eq_true] at h
        obtain ⟨x, hx, h⟩ := h
        have := h' x hx
        simp only [decide_eq_true_eq] at h
        omega
      · exact ⟨_, hz, rfl, fun _ _ => rfl⟩
open Classical in
theorem of_small {L : List RE} {K p : Int} : (OddP p → ∀ g, Ev (fun k => epicycleref05_Generator.f k p) g → Ev (fun k => epicycleref06_Of.f k 0 K p L) (p, g, 0)) ∧ (¬ OddP p → Ev (fun k => epicycleref06_Of.f k 0 K p L) (0, 0, 1)) := by
  have O := rOdd_ev p
  have e : ∀ k, epicycleref06_Of.f k 0 K p L = ((epicycleref05_Odd.f k p).bind fun t102 => (if t102 = true then ((epicycleref05_Generator.f k p).bind fun t103 => (some (p, t103, 0))) else (some (0, 0, 1)))) := fun k => by
    unfold epicycleref06_Of.f XO.epicycleref06_Of.f
    rw [if_neg (by omega), if_pos rfl]
  refine ⟨fun h g G => ?_, fun h => ?_⟩
  · rw [decide_eq_true h] at O
    exact Ev.congr e (Ev.bind O (evP rfl (Ev.bind G (Ev.now _))))
  · rw [decide_eq_false h] at O
    exact Ev.congr e (Ev.bind O (evN (by decide) (Ev.now _)))
theorem of_known {L : List RE} {K p : Int} : ((0 ≤ K ∧ K ≤ 5) → Ev (fun k => epicycleref06_Of.f k 1 K p L) (knownT K)) ∧ (¬ (0 ≤ K ∧ K ≤ 5) → Ev (fun k => epicycleref06_Of.f k 1 K p L) (0, 0, 1)) := by
  refine ⟨fun h => Ev.congr (fun k => by unfold epicycleref06_Of.f; rw [if_pos ⟨rfl, h⟩]) (Ev.now _), fun h => ?_⟩
  refine Ev.congr (f := fun k => XO.epicycleref06_Of.j0 k true) (fun k => ?_) (Ev.step (f := fun _ => some (0, 0, 1)) (fun k => ?_) (Ev.now _))
  · unfold epicycleref06_Of.f XO.epicycleref06_Of.f
    rw [if_neg (fun c => h c.2), if_neg (by decide), if_pos rfl]
    by_cases c : K < 0
    · rw [if_pos c]
    · rw [if_neg c, decide_eq_true (by omega)]
  · simp only [XO.epicycleref06_Of.j0]
    rw [if_pos trivial]
end Go.Proofs.YthnpjjpdlihepaaGreat.F06
end
section
namespace Go.Proofs.YthnpjjpdlihepaaGreat.F06
open Go Go.RowKit Go.Proofs.YthnpjjpdlihepaaGreatW.PrintWords Go.Proofs.YthnpjjpdlihepaaGreatW.PrintLast Go.Proofs.YthnpjjpdlihepaaGreatW.PrintMore Go.Proofs.YthnpjjpdlihepaaGreat.Given Go.Proofs.YthnpjjpdlihepaaGreat.M Go.Proofs.YthnpjjpdlihepaaGreat.Mont Go.Proofs.YthnpjjpdlihepaaGreat.XS Go.Proofs.YthnpjjpdlihepaaGreat.XT Go.Proofs.YthnpjjpdlihepaaGreat.XR Go.Proofs.YthnpjjpdlihepaaGreat.Num Go.Proofs.YthnpjjpdlihepaaGreat.XK
theorem evS {α : Type} {o : Option α} {r : α} (h : o = some r) : Ev (fun _ => o) r := ⟨0, fun _ _ => h⟩
theorem evB {α β : Type} {o : Option α} {f : Nat → α → Option β} {a : α} {r : β} (h : o = some a) (k : Ev (fun n => f n a) r) : Ev (fun n => o.bind (f n)) r := Ev.bind (evS h) k
variable {F : Fld}
theorem GoodFld.nat (h : GoodFld F) : ∃ P G : Nat, F.p = P ∧ F.g = G ∧ 3 ≤ P ∧ P < 9223372036854775808 ∧ P % 2 = 1 ∧ Prime P ∧ ∀ x, G ^ x % P = 1 ↔ P - 1 ∣ x := by
  have hf := h.fits
  unfold XR.fits at hf
  have ho := h.ord
  refine ⟨F.p.toNat, F.g.toNat, by omega, by omega, by omega, by omega, by omega, ho.prime, ho.2⟩
theorem GoodFld.lo (h : GoodFld F) : 3 ≤ F.p := h.m.2.1
theorem GoodFld.hi (h : GoodFld F) : F.p < 9223372036854775808 := h.m.2.2
theorem GoodFld.uP (h : GoodFld F) : U F.p := ⟨by have := h.lo; omega, by have := h.hi; omega⟩
theorem GoodFld.ne (h : GoodFld F) : F.p ≠ 0 := by have := h.lo; omega
theorem GoodFld.uE (h : GoodFld F) (x : Int) : U (x % F.p) := U_emod x h.uP h.ne
theorem GoodFld.one (h : GoodFld F) : (1 : Int) % F.p = 1 := Int.emod_eq_of_lt (by omega) (by have := h.lo; omega)
theorem ncast_pow_mod (G P n : Nat) : (G : Int) ^ n % (P : Int) = ((G ^ n % P : Nat) : Int) := by
  rw [Int.natCast_emod, Int.natCast_pow]
theorem GoodFld.euclid (h : GoodFld F) {a b : Int} (e : a * b % F.p = 0) : a % F.p = 0 ∨ b % F.p = 0 := by
  obtain ⟨P, G, e1, _, _, _, _, hp, _⟩ := h.nat
  rw [e1] at e ⊢
  rcases hp.int (Int.dvd_of_emod_eq_zero e) with d | d
  · exact .inl (Int.emod_eq_zero_of_dvd d)
  · exact .inr (Int.emod_eq_zero_of_dvd d)
theorem GoodFld.fermat (h : GoodFld F) {a : Int} (ha : a % F.p ≠ 0) : a ^ (F.p - 1).toNat % F.p = 1 := by
  obtain ⟨P, G, e1, _, h3, _, _, hp, _⟩ := h.nat
  have hlo := h.lo
  rw [← emod_pow]
  obtain ⟨A, hA⟩ : ∃ A : Nat, a % F.p = A := ⟨(a % F.p).toNat, by have := Int.emod_nonneg a h.ne; omega⟩
  have hlt := Int.emod_lt_of_pos a (show 0 < F.p by omega)
  rw [hA] at ha hlt ⊢
  rw [e1] at hlt ⊢
  rw [show ((P : Int) - 1).toNat = P - 1 by omega, ncast_pow_mod, hp.fermat (by rw [Nat.mod_eq_of_lt (by omega)]; omega)]
  rfl
theorem GoodFld.inv (h : GoodFld F) {a : Int} (ha : a % F.p ≠ 0) : invF F.p a = a ^ (F.p - 2).toNat % F.p ∧ invF F.p a * a % F.p = 1 ∧ invF F.p a % F.p ≠ 0 ∧ 0 ≤ invF F.p a ∧ invF F.p a < F.p := by
  have hlo := h.lo
  have e : (F.p - 1).toNat = (F.p - 2).toNat + 1 := by omega
  have hf := h.fermat ha
  rw [e, Int.pow_succ] at hf
  have h0 := Int.emod_nonneg (a ^ (F.p - 2).toNat) h.ne
  have h1 := Int.emod_lt_of_pos (a ^ (F.p - 2).toNat) (show 0 < F.p by omega)
  have h2 : a ^ (F.p - 2).toNat % F.p * a % F.p = 1 := by rw [emod_mul_l]; exact hf
  have e1 := invF_eq (by omega) h0 h1 h2
  rw [e1]
  refine ⟨rfl, h2, fun c => ?_, h0, h1⟩
  rw [Int.emod_emod] at c
  rw [c, Int.zero_mul, Int.zero_emod] at h2
  omega
theorem GoodFld.inv0 (h : GoodFld F) {a : Int} (ha : a % F.p = 0) : invF F.p a = 0 := by
  have hlo := h.lo
  refine invF_none fun ⟨t, _, _, e⟩ => ?_
  rw [Int.mul_emod, ha, Int.mul_zero, Int.zero_emod] at e
  omega
def rootI (F : Fld) (n : Int) : Int := F.g ^ ((F.p - 1) / n).toNat % F.p
theorem Root_at (F : Fld) {n : Int} (hb : n < 9223372036854775808) (hn : 0 < n) (hd : (F.p - 1) % n = 0) : field_Field_Root.f [F] n = some (rootI F n, 0) := by
  unfold field_Field_Root.f
  rw [if_pos hb]
  show some (if _ then _ else _) = _
  rw [if_pos ⟨hn, hd⟩]
  rfl
theorem gen17 {g : Int} (h : Ev (fun k => epicycleref05_Generator.f k 17) g) : g = 3 :=
  Ev.unique h (Ev.of (g := fun k => epicycleref05_Generator.f k 17) (fun k => epicycleref05_Generator.mono 17 k) (k := 60) (by kernel_rfl))
theorem prime17 : Prime 17 := ⟨by decide, fun d hd => by
  have := Nat.le_of_dvd (by decide) hd
  have : ∀ d : Nat, d ≤ 17 → d ∣ 17 → d = 1 ∨ d = 17 := by decide
  exact this d (by omega) hd⟩
theorem small17 : ∃ F, Ev (fun k => field_Small.f k 17) ([F], 0) ∧ F.p = 17 ∧ F.g = 3 ∧ GoodFld F := by
  obtain ⟨F, h1, h2, h3, h4⟩ := small_odd (x := 17) ⟨by decide, by decide, prime17⟩
  exact ⟨F, h1, h3, gen17 h2, h4⟩
end Go.Proofs.YthnpjjpdlihepaaGreat.F06
end
section
namespace Go.Proofs.YthnpjjpdlihepaaGreat.XD
open Go.RowKit Go.Proofs.YthnpjjpdlihepaaGreat.Given Go.Proofs.YthnpjjpdlihepaaGreat.Row05 Go.Proofs.YthnpjjpdlihepaaGreat.XS Go.Proofs.YthnpjjpdlihepaaGreat.XT Go.Proofs.YthnpjjpdlihepaaGreat.XR Go.Proofs.YthnpjjpdlihepaaGreat.F06 Go.Proofs.YthnpjjpdlihepaaGreat.XK Go.Proofs.YthnpjjpdlihepaaGreatW.PrintWords Go.Proofs.YthnpjjpdlihepaaGreatW.PrintLast Go.Proofs.YthnpjjpdlihepaaGreatW.PrintMore
attribute [local go_sem] max2_int min2_int max_two min_two max_three min_three max_four min_four   -- for this text's walks alone
set_option linter.unusedVariables false
set_option linter.unusedSimpArgs false
noncomputable def epicyclelaw06_alive.f (k : Nat)  : Option (Bool) := (field_Small.f k 17).bind fun bt101 => ((field_Field_Root.f bt101.1 4).bind fun bt105 => (if bt101.2 = 0 then (if bt105.2 = 0 then ((field_Field_G.f bt101.1).bind fun t107 => (if t107 = 3 then (if bt105.1 = 13 then ((field_Field_Mul.f bt101.1 bt105.1 bt105.1).bind fun t108 => (some (t108 == 16))) else (some false)) else (some false))) else (some false)) else (some false)))
set_option maxHeartbeats 8000000 in
set_option maxRecDepth 100000 in
theorem epicyclelaw06_alive.calls (k : Nat)  (r : Bool) (w : World) (h : epicyclelaw06_alive.f k  = some r) :
  Calls Tryz.prog 5 #[] w fun e w' => e = .returned (.bool r) ∧ Below w.heap.size w w' := by
 have HB := Aside0.mk (Below.refl w.heap.size w)
 have H : ((field_Small.f k 17).bind fun bt101 => ((field_Field_Root.f bt101.1 4).bind fun bt105 => (if bt101.2 = 0 then (if bt105.2 = 0 then ((field_Field_G.f bt101.1).bind fun t107 => (if t107 = 3 then (if bt105.1 = 13 then ((field_Field_Mul.f bt101.1 bt105.1 bt105.1).bind fun t108 => (some (t108 == 16))) else (some false)) else (some false))) else (some false)) else (some false)))) = some r := h
 clear h
 replace H := Option.bind_eq_some_iff.mp H
 obtain ⟨⟨t101, t102⟩, A10, H⟩ := H
 replace H : ((field_Field_Root.f t101 4).bind fun bt105 => (if t102 = 0 then (if bt105.2 = 0 then ((field_Field_G.f t101).bind fun t107 => (if t107 = 3 then (if bt105.1 = 13 then ((field_Field_Mul.f t101 bt105.1 bt105.1).bind fun t108 => (some (t108 == 16))) else (some false)) else (some false))) else (some false)) else (some false))) = some r := H
 have A1 := Aside0.mk A10
 clear A10
 replace H := Option.bind_eq_some_iff.mp H
 obtain ⟨⟨t105, t106⟩, A20, H⟩ := H
 replace H : (if t102 = 0 then (if t106 = 0 then ((field_Field_G.f t101).bind fun t107 => (if t107 = 3 then (if t105 = 13 then ((field_Field_Mul.f t101 t105 t105).bind fun t108 => (some (t108 == 16))) else (some false)) else (some false))) else (some false)) else (some false)) = some r := H
 have A2 := Aside0.mk A20
 clear A20
 by_cases c3 : t102 = 0
 ·rw [if_pos c3] at H
  have c3b0 : (t102 == 0) = true := beq_iff_eq.mpr c3
  have c3b1 : (t102 != 0) = false := bne_eq_false_iff_eq.mpr c3
  clear c3
  by_cases c4 : t106 = 0
  ·rw [if_pos c4] at H
   have c4b0 : (t106 == 0) = true := beq_iff_eq.mpr c4
   have c4b1 : (t106 != 0) = false := bne_eq_false_iff_eq.mpr c4
   clear c4
   replace H := Option.bind_eq_some_iff.mp H
   obtain ⟨t107, A50, H⟩ := H
   replace H : (if t107 = 3 then (if t105 = 13 then ((field_Field_Mul.f t101 t105 t105).bind fun t108 => (some (t108 == 16))) else (some false)) else (some false)) = some r := H
   have A5 := Aside0.mk A50
   clear A50
   by_cases c6 : t107 = 3
   ·rw [if_pos c6] at H
    have c6b0 : (t107 == 3) = true := beq_iff_eq.mpr c6
    have c6b1 : (t107 != 3) = false := bne_eq_false_iff_eq.mpr c6
    clear c6
    by_cases c7 : t105 = 13
    ·rw [if_pos c7] at H
     have c7b0 : (t105 == 13) = true := beq_iff_eq.mpr c7
     have c7b1 : (t105 != 13) = false := bne_eq_false_iff_eq.mpr c7
     clear c7
     replace H := Option.bind_eq_some_iff.mp H
     obtain ⟨t108, A80, H⟩ := H
     replace H : (some (t108 == 16)) = some r := H
     have A8 := Aside0.mk A80
     clear A80
     obtain rfl := Option.some.inj H
     go_enter Tryz.func5, Tryz.ntmps5
     go_wp2_with (first | ((with_reducible refine gate_callee (f := 28) rfl ?_); refine goesL_ (some 6) rfl rfl Tryz.func28 (by kernel_rfl) rfl #[.int .u64 17] rfl (by (try simp only [List.map_toArray, List.map_cons, List.map_nil]); first | done | rfl | (simp only [List.length_drop, List.length_take]; rfl)) ?_; (with_reducible refine (field_Small.calls k 17 t101 t102 _ A1.out).mono ?_); rintro e w9 ⟨v103, rfl, ho0, hb⟩; refine ⟨_, rfl, ?_⟩; have n0_ := Aside0.mk (Kd.R_lower ho0 (below_size (by repeat (first | (with_reducible first | exact HB.out | apply below_alloc | apply pw_below_drewN | apply below_drew1) | exact HB.out)))); have n1_ := Aside0.mk (below_step (by repeat (first | (with_reducible first | exact HB.out | apply below_alloc | apply pw_below_drewN | apply below_drew1) | exact HB.out)) hb); clear HB; have HO104 := n0_; have HB := n1_; clear n0_ n1_; (try clear hb); (try clear hb2); (try clear hk); (try clear hi); (try clear ho0); obtain ⟨Ao10, co10, eo10⟩ := Kd.R_slice HO104.out; subst eo10) | ((with_reducible refine gate_callee (f := 29) rfl ?_); refine goesL_ (some 11) rfl rfl Tryz.func29 (by kernel_rfl) rfl #[toPtr (.slice Ao10 t101.length co10), .int .i64 4] rfl (by (try simp only [List.map_toArray, List.map_cons, List.map_nil]); first | done | (rw [hT_HO104] <;> rfl) | rfl | (simp only [List.length_drop, List.length_take]; rfl)) ?_; (try rw [← hT_HO104]); (with_reducible refine (field_Field_Root.calls _ _ t101 4 t105 t106 _ ?side1 ?side2 A2.out).mono ?_); (case side1 => repeat (first | exact (Kd.R_reads' HO104.out).2.2 | (with_reducible refine Kd.C_alloc ?_ _) | (with_reducible refine Kd.C_drewN ?_ _) | (with_reducible refine Kd.C_drew ?_))); (case side2 => exact (Kd.R_reads' HO104.out).2.1); rintro e w' ⟨rfl, ⟨nd, rfl⟩⟩; refine ⟨_, rfl, ?_⟩) | (go_at_call 30; (try rw [← hT_HO104]); (with_reducible refine (field_Field_G.calls _ _ t101 t107 _ ?side1 ?side2 A5.out).mono ?_); (case side1 => repeat (first | exact (Kd.R_reads' HO104.out).2.2 | (with_reducible refine Kd.C_alloc ?_ _) | (with_reducible refine Kd.C_drewN ?_ _) | (with_reducible refine Kd.C_drew ?_))); (case side2 => exact (Kd.R_reads' HO104.out).2.1); rintro e w' ⟨rfl, ⟨nd, rfl⟩⟩) | (go_at_call 13; (try rw [← hT_HO104]); (with_reducible refine (field_Field_Mul.calls _ _ t101 t105 t105 t108 _ ?side1 ?side2 A8.out).mono ?_); (case side1 => repeat (first | exact (Kd.R_reads' HO104.out).2.2 | (with_reducible refine Kd.C_alloc ?_ _) | (with_reducible refine Kd.C_drewN ?_ _) | (with_reducible refine Kd.C_drew ?_))); (case side2 => exact (Kd.R_reads' HO104.out).2.1); rintro e w' ⟨rfl, ⟨nd, rfl⟩⟩))
     go_ret
     exact ⟨by first | rfl | (simp [errW_none, errW_some] <;> rfl) | (simp [*, errW_none, errW_some] <;> rfl), by repeat (first | (with_reducible first | exact HB.out | apply below_alloc | apply pw_below_drewN | apply below_drew1) | exact HB.out)⟩
    ·rw [if_neg c7] at H
     have c7b0 : (t105 == 13) = false := beq_eq_false_iff_ne.mpr c7
     have c7b1 : (t105 != 13) = true := bne_iff_ne.mpr c7
     obtain rfl := Option.some.inj H
     go_enter Tryz.func5, Tryz.ntmps5
     go_wp2_with (first | ((with_reducible refine gate_callee (f := 28) rfl ?_); refine goesL_ (some 6) rfl rfl Tryz.func28 (by kernel_rfl) rfl #[.int .u64 17] rfl (by (try simp only [List.map_toArray, List.map_cons, List.map_nil]); first | done | rfl | (simp only [List.length_drop, List.length_take]; rfl)) ?_; (with_reducible refine (field_Small.calls k 17 t101 t102 _ A1.out).mono ?_); rintro e w11 ⟨v103, rfl, ho0, hb⟩; refine ⟨_, rfl, ?_⟩; have n0_ := Aside0.mk (Kd.R_lower ho0 (below_size (by repeat (first | (with_reducible first | exact HB.out | apply below_alloc | apply pw_below_drewN | apply below_drew1) | exact HB.out)))); have n1_ := Aside0.mk (below_step (by repeat (first | (with_reducible first | exact HB.out | apply below_alloc | apply pw_below_drewN | apply below_drew1) | exact HB.out)) hb); clear HB; have HO104 := n0_; have HB := n1_; clear n0_ n1_; (try clear hb); (try clear hb2); (try clear hk); (try clear hi); (try clear ho0); obtain ⟨Ao12, co12, eo12⟩ := Kd.R_slice HO104.out; subst eo12) | ((with_reducible refine gate_callee (f := 29) rfl ?_); refine goesL_ (some 11) rfl rfl Tryz.func29 (by kernel_rfl) rfl #[toPtr (.slice Ao12 t101.length co12), .int .i64 4] rfl (by (try simp only [List.map_toArray, List.map_cons, List.map_nil]); first | done | (rw [hT_HO104] <;> rfl) | rfl | (simp only [List.length_drop, List.length_take]; rfl)) ?_; (try rw [← hT_HO104]); (with_reducible refine (field_Field_Root.calls _ _ t101 4 t105 t106 _ ?side1 ?side2 A2.out).mono ?_); (case side1 => repeat (first | exact (Kd.R_reads' HO104.out).2.2 | (with_reducible refine Kd.C_alloc ?_ _) | (with_reducible refine Kd.C_drewN ?_ _) | (with_reducible refine Kd.C_drew ?_))); (case side2 => exact (Kd.R_reads' HO104.out).2.1); rintro e w' ⟨rfl, ⟨nd, rfl⟩⟩; refine ⟨_, rfl, ?_⟩) | (go_at_call 30; (try rw [← hT_HO104]); (with_reducible refine (field_Field_G.calls _ _ t101 t107 _ ?side1 ?side2 A5.out).mono ?_); (case side1 => repeat (first | exact (Kd.R_reads' HO104.out).2.2 | (with_reducible refine Kd.C_alloc ?_ _) | (with_reducible refine Kd.C_drewN ?_ _) | (with_reducible refine Kd.C_drew ?_))); (case side2 => exact (Kd.R_reads' HO104.out).2.1); rintro e w' ⟨rfl, ⟨nd, rfl⟩⟩))
     go_ret
     exact ⟨by first | rfl | (simp [errW_none, errW_some] <;> rfl) | (simp [*, errW_none, errW_some] <;> rfl), by repeat (first | (with_reducible first | exact HB.out | apply below_alloc | apply pw_below_drewN | apply below_drew1) | exact HB.out)⟩
   ·rw [if_neg c6] at H
    have c6b0 : (t107 == 3) = false := beq_eq_false_iff_ne.mpr c6
    have c6b1 : (t107 != 3) = true := bne_iff_ne.mpr c6
    obtain rfl := Option.some.inj H
    go_enter Tryz.func5, Tryz.ntmps5
    go_wp2_with (first | ((with_reducible refine gate_callee (f := 28) rfl ?_); refine goesL_ (some 6) rfl rfl Tryz.func28 (by kernel_rfl) rfl #[.int .u64 17] rfl (by (try simp only [List.map_toArray, List.map_cons, List.map_nil]); first | done | rfl | (simp only [List.length_drop, List.length_take]; rfl)) ?_; (with_reducible refine (field_Small.calls k 17 t101 t102 _ A1.out).mono ?_); rintro e w13 ⟨v103, rfl, ho0, hb⟩; refine ⟨_, rfl, ?_⟩; have n0_ := Aside0.mk (Kd.R_lower ho0 (below_size (by repeat (first | (with_reducible first | exact HB.out | apply below_alloc | apply pw_below_drewN | apply below_drew1) | exact HB.out)))); have n1_ := Aside0.mk (below_step (by repeat (first | (with_reducible first | exact HB.out | apply below_alloc | apply pw_below_drewN | apply below_drew1) | exact HB.out)) hb); clear HB; have HO104 := n0_; have HB := n1_; clear n0_ n1_; (try clear hb); (try clear hb2); (try clear hk); (try clear hi); (try clear ho0); obtain ⟨Ao14, co14, eo14⟩ := Kd.R_slice HO104.out; subst eo14) | ((with_reducible refine gate_callee (f := 29) rfl ?_); refine goesL_ (some 11) rfl rfl Tryz.func29 (by kernel_rfl) rfl #[toPtr (.slice Ao14 t101.length co14), .int .i64 4] rfl (by (try simp only [List.map_toArray, List.map_cons, List.map_nil]); first | done | (rw [hT_HO104] <;> rfl) | rfl | (simp only [List.length_drop, List.length_take]; rfl)) ?_; (try rw [← hT_HO104]); (with_reducible refine (field_Field_Root.calls _ _ t101 4 t105 t106 _ ?side1 ?side2 A2.out).mono ?_); (case side1 => repeat (first | exact (Kd.R_reads' HO104.out).2.2 | (with_reducible refine Kd.C_alloc ?_ _) | (with_reducible refine Kd.C_drewN ?_ _) | (with_reducible refine Kd.C_drew ?_))); (case side2 => exact (Kd.R_reads' HO104.out).2.1); rintro e w' ⟨rfl, ⟨nd, rfl⟩⟩; refine ⟨_, rfl, ?_⟩) | (go_at_call 30; (try rw [← hT_HO104]); (with_reducible refine (field_Field_G.calls _ _ t101 t107 _ ?side1 ?side2 A5.out).mono ?_); (case side1 => repeat (first | exact (Kd.R_reads' HO104.out).2.2 | (with_reducible refine Kd.C_alloc ?_ _) | (with_reducible refine Kd.C_drewN ?_ _) | (with_reducible refine Kd.C_drew ?_))); (case side2 => exact (Kd.R_reads' HO104.out).2.1); rintro e w' ⟨rfl, ⟨nd, rfl⟩⟩))
    go_ret
    exact ⟨by first | rfl | (simp [errW_none, errW_some] <;> rfl) | (simp [*, errW_none, errW_some] <;> rfl), by repeat (first | (with_reducible first | exact HB.out | apply below_alloc | apply pw_below_drewN | apply below_drew1) | exact HB.out)⟩
  ·rw [if_neg c4] at H
   have c4b0 : (t106 == 0) = false := beq_eq_false_iff_ne.mpr c4
   have c4b1 : (t106 != 0) = true := bne_iff_ne.mpr c4
   obtain rfl := Option.some.inj H
   go_enter Tryz.func5, Tryz.ntmps5
   go_wp2_with (first | ((with_reducible refine gate_callee (f := 28) rfl ?_); refine goesL_ (some 6) rfl rfl Tryz.func28 (by kernel_rfl) rfl #[.int .u64 17] rfl (by (try simp only [List.map_toArray, List.map_cons, List.map_nil]); first | done | rfl | (simp only [List.length_drop, List.length_take]; rfl)) ?_; (with_reducible refine (field_Small.calls k 17 t101 t102 _ A1.out).mono ?_); rintro e w15 ⟨v103, rfl, ho0, hb⟩; refine ⟨_, rfl, ?_⟩; have n0_ := Aside0.mk (Kd.R_lower ho0 (below_size (by repeat (first | (with_reducible first | exact HB.out | apply below_alloc | apply pw_below_drewN | apply below_drew1) | exact HB.out)))); have n1_ := Aside0.mk (below_step (by repeat (first | (with_reducible first | exact HB.out | apply below_alloc | apply pw_below_drewN | apply below_drew1) | exact HB.out)) hb); clear HB; have HO104 := n0_; have HB := n1_; clear n0_ n1_; (try clear hb); (try clear hb2); (try clear hk); (try clear hi); (try clear ho0); obtain ⟨Ao16, co16, eo16⟩ := Kd.R_slice HO104.out; subst eo16) | ((with_reducible refine gate_callee (f := 29) rfl ?_); refine goesL_ (some 11) rfl rfl Tryz.func29 (by kernel_rfl) rfl #[toPtr (.slice Ao16 t101.length co16), .int .i64 4] rfl (by (try simp only [List.map_toArray, List.map_cons, List.map_nil]); first | done | (rw [hT_HO104] <;> rfl) | rfl | (simp only [List.length_drop, List.length_take]; rfl)) ?_; (try rw [← hT_HO104]); (with_reducible refine (field_Field_Root.calls _ _ t101 4 t105 t106 _ ?side1 ?side2 A2.out).mono ?_); (case side1 => repeat (first | exact (Kd.R_reads' HO104.out).2.2 | (with_reducible refine Kd.C_alloc ?_ _) | (with_reducible refine Kd.C_drewN ?_ _) | (with_reducible refine Kd.C_drew ?_))); (case side2 => exact (Kd.R_reads' HO104.out).2.1); rintro e w' ⟨rfl, ⟨nd, rfl⟩⟩; refine ⟨_, rfl, ?_⟩))
   go_ret
   exact ⟨by first | rfl | (simp [errW_none, errW_some] <;> rfl) | (simp [*, errW_none, errW_some] <;> rfl), by repeat (first | (with_reducible first | exact HB.out | apply below_alloc | apply pw_below_drewN | apply below_drew1) | exact HB.out)⟩
 ·rw [if_neg c3] at H
  have c3b0 : (t102 == 0) = false := beq_eq_false_iff_ne.mpr c3
  have c3b1 : (t102 != 0) = true := bne_iff_ne.mpr c3
  obtain rfl := Option.some.inj H
  go_enter Tryz.func5, Tryz.ntmps5
  go_wp2_with (first | ((with_reducible refine gate_callee (f := 28) rfl ?_); refine goesL_ (some 6) rfl rfl Tryz.func28 (by kernel_rfl) rfl #[.int .u64 17] rfl (by (try simp only [List.map_toArray, List.map_cons, List.map_nil]); first | done | rfl | (simp only [List.length_drop, List.length_take]; rfl)) ?_; (with_reducible refine (field_Small.calls k 17 t101 t102 _ A1.out).mono ?_); rintro e w17 ⟨v103, rfl, ho0, hb⟩; refine ⟨_, rfl, ?_⟩; have n0_ := Aside0.mk (Kd.R_lower ho0 (below_size (by repeat (first | (with_reducible first | exact HB.out | apply below_alloc | apply pw_below_drewN | apply below_drew1) | exact HB.out)))); have n1_ := Aside0.mk (below_step (by repeat (first | (with_reducible first | exact HB.out | apply below_alloc | apply pw_below_drewN | apply below_drew1) | exact HB.out)) hb); clear HB; have HO104 := n0_; have HB := n1_; clear n0_ n1_; (try clear hb); (try clear hb2); (try clear hk); (try clear hi); (try clear ho0); obtain ⟨Ao18, co18, eo18⟩ := Kd.R_slice HO104.out; subst eo18) | ((with_reducible refine gate_callee (f := 29) rfl ?_); refine goesL_ (some 11) rfl rfl Tryz.func29 (by kernel_rfl) rfl #[toPtr (.slice Ao18 t101.length co18), .int .i64 4] rfl (by (try simp only [List.map_toArray, List.map_cons, List.map_nil]); first | done | (rw [hT_HO104] <;> rfl) | rfl | (simp only [List.length_drop, List.length_take]; rfl)) ?_; (try rw [← hT_HO104]); (with_reducible refine (field_Field_Root.calls _ _ t101 4 t105 t106 _ ?side1 ?side2 A2.out).mono ?_); (case side1 => repeat (first | exact (Kd.R_reads' HO104.out).2.2 | (with_reducible refine Kd.C_alloc ?_ _) | (with_reducible refine Kd.C_drewN ?_ _) | (with_reducible refine Kd.C_drew ?_))); (case side2 => exact (Kd.R_reads' HO104.out).2.1); rintro e w' ⟨rfl, ⟨nd, rfl⟩⟩; refine ⟨_, rfl, ?_⟩))
  go_ret
  exact ⟨by first | rfl | (simp [errW_none, errW_some] <;> rfl) | (simp [*, errW_none, errW_some] <;> rfl), by repeat (first | (with_reducible first | exact HB.out | apply below_alloc | apply pw_below_drewN | apply below_drew1) | exact HB.out)⟩
mutual
noncomputable def epicyclelaw06_rows.l0 : Nat → List (S57) → List (S71) → Int → Int → Option ((List (S57)))
 | 0, _, _, _, _ => none
 | k + 1, x3, x9, x10, x11 => if x11 < x10 then (if 0 ≤ x11 then (if x11 < (x9.length : Int) then (epicyclelaw06_rows.l1 k x3 ([] : List (S84)) x9 x10 x11 ((rd_T71 x9 x11).f2) (((rd_T71 x9 x11).f2).length : Int) 0 ((rd_T71 x9 x11).f0) ((rd_T71 x9 x11).f1) ((rd_T71 x9 x11).f2)) else (none)) else (none)) else (some x3)
noncomputable def epicyclelaw06_rows.l1 : Nat → List (S57) → List (S84) → List (S71) → Int → Int → List (S83) → Int → Int → Int → Int → List (S83) → Option ((List (S57)))
 | 0, _, _, _, _, _, _, _, _, _, _, _ => none
 | k + 1, x3, x6, x9, x10, x11, x16, x17, x18, x111000, x111001, x111002 => if x18 < x17 then (if 0 ≤ x18 then (if x18 < (x16.length : Int) then (if x6.length < 8796093022208 then (epicyclelaw06_rows.l1 k x3 (x6 ++ [(⟨(rd_T83 x16 x18).f0, (rd_T83 x16 x18).f1⟩ : S84)]) x9 x10 x11 x16 x17 (wrap64 (x18 + 1)) x111000 x111001 x111002) else (none)) else (none)) else (none)) else (if x3.length < 3518437208883 then (epicyclelaw06_rows.l0 k (x3 ++ [(⟨x111000, x111001, x6⟩ : S57)]) x9 x10 (wrap64 (x11 + 1))) else (none))
end
noncomputable def epicyclelaw06_rows.f (k : Nat) (l0 : List (S71)) : Option ((List (S57))) := epicyclelaw06_rows.l0 k ([] : List (S57)) l0 (l0.length : Int) 0
set_option maxHeartbeats 8000000 in
set_option maxRecDepth 100000 in
theorem epicyclelaw06_rows.calls (k : Nat) (A0 : Option Addr) (c0 : Nat) (l0 : List (S71)) (r : List (S57)) (w : World) (hr0 : Kd.C k71 w A0 l0.length l0) (hc0 : l0.length ≤ c0) (h : epicyclelaw06_rows.f k l0 = some r) :
  Calls Tryz.prog 34 #[.slice A0 l0.length c0] w fun e w' => ∃ v0_ : Value, e = .returned (v0_) ∧ Kd.S k57 57 w' w.heap.size (fun _ => True) v0_ r ∧ Below w.heap.size w w' := by
 have hu71 := Tryz.underlying71
 have hu83 := Tryz.underlying83
 have hu57 := Tryz.underlying57
 have HR0 := Aside0.mk hr0
 have HC0 := Aside0.mk hc0
 clear hr0 hc0
 have HB := Aside0.mk (Below.refl w.heap.size w)
 have H : (epicyclelaw06_rows.l0 k ([] : List (S57)) l0 (l0.length : Int) 0) = some r := h
 clear h
 have H' := Aside0.mk H
 clear H
 go_enter Tryz.func34, Tryz.ntmps34
 go_wp2
 go_loopg [3, 11] k (fun kq v3 v11 w' => ∃ (x3_1 : List (S57)) (x11_1 : Int), v11 = .int .i64 x11_1 ∧ Aside0 (epicyclelaw06_rows.l0 kq x3_1 l0 (l0.length : Int) x11_1 = some r) ∧ Aside0 (kq ≤ k) ∧ Aside0 (Kd.S k57 57 w' w.heap.size (fun _ => True) v3 x3_1) ∧ Aside0 (Below w.heap.size w w'))
 case atStart => exact ⟨(([] : List (S57))), (0), (by first | rfl | (simp; done) | (simp [*]; done)), H', ⟨Nat.le_refl _⟩, ⟨by first | exact Kd.S_nil _ _ _ _ _ | exact Kd.N_nil _ _ _ _ _ | exact Kd.V_nil _ _ _ _ _ | exact Kd.Q_nil _ _ _ _ _ | exact Kd.R_nil _ _ _ _ _⟩, ⟨by repeat (first | (with_reducible first | exact HB.out | apply below_alloc | apply pw_below_drewN | apply below_drew1) | exact HB.out)⟩⟩
 case round =>
  clear H'
  obtain ⟨x3_1, x11_1, rfl, HA, HK1, HO_3, HB⟩ := hrel
  cases gk with
  | zero => exact absurd HA.out (by simp [epicyclelaw06_rows.l0])
  | succ k1 =>
   have H := HA.out
   clear HA
   simp only [epicyclelaw06_rows.l0] at H
   by_cases c2 : x11_1 < (l0.length : Int)
   ·rw [if_pos c2] at H
    have c2b0 : decide (x11_1 < (l0.length : Int)) = true := decide_eq_true c2
    clear c2
    by_cases c3 : 0 ≤ x11_1
    ·rw [if_pos c3] at H
     have c3b0 : decide (0 ≤ x11_1) = true := decide_eq_true c3
     clear c3
     by_cases c4 : x11_1 < (l0.length : Int)
     ·rw [if_pos c4] at H
      have c4b0 : decide (x11_1 < (l0.length : Int)) = true := decide_eq_true c4
      clear c4
      have H' := Aside0.mk H
      clear H
      have p109 : 0 ≤ (x11_1 : Int) := of_decide_eq_true (by first | (with_reducible assumption) | assumption)
      have q109 : x11_1 < (l0.length : Int) := of_decide_eq_true (by first | (with_reducible assumption) | assumption)
      obtain ⟨ad109, A109_2, c109_2, e109, hx109_0, hx109_1, hx109_2, hl109_2, hi109_2⟩ := at_T71 HR0.out x11_1 p109 q109
      cases e109
      replace hx109_0 := (HB.out.cell (World.block_lt_of_cell? w _ hx109_0)).trans hx109_0
      replace hx109_1 := (HB.out.cell (World.block_lt_of_cell? w _ hx109_1)).trans hx109_1
      replace hx109_2 := (HB.out.cell (World.block_lt_of_cell? w _ hx109_2)).trans hx109_2
      have HR109_2 := Aside0.mk hi109_2
      have HC109_2 := Aside0.mk hl109_2
      clear hi109_2 hl109_2
      replace p109 := eq_true p109
      replace q109 := eq_true q109
      go_wp2_with (first | ((with_reducible refine gate_dst (N := 5) rfl ?_); refine box_event ?hg (N := 5) ?hd (cs := #[.int .u64 0, .int .u64 0, .slice none 0 0]) (t := 71) ?hr ?_; (case hd => rfl); (case hg => rfl); (case hr => first | (go_simp; done) | (go_simp; rfl)); intro gb110 hg w5 hbox hb; have n0_ := Aside0.mk (Kd.S_below (by (with_reducible repeat (first | apply Kd.S_alloc | apply Kd.S_drewN | apply Kd.S_drew)); exact HO_3.out) hb); have n1_ := Aside0.mk (below_step (by repeat (first | (with_reducible first | exact HB.out | apply below_alloc | apply pw_below_drewN | apply below_drew1) | exact HB.out)) hb); have n2_ := Aside0.mk (hbox); have n3_ := Aside0.mk ((by rw [hg]; exact (below_size (by repeat (first | (with_reducible first | exact HB.out | apply below_alloc | apply pw_below_drewN | apply below_drew1) | exact HB.out))) : w.heap.size ≤ gb110)); have n4_ := Aside0.mk ((by rw [hg]; exact (below_size (by repeat (first | (with_reducible first | exact HB.out | apply below_alloc | apply pw_below_drewN | apply below_drew1) | exact HB.out))) : w.heap.size ≤ gb110)); clear HO_3; clear HB; have HO_3 := n0_; have HB := n1_; have BK110 := n2_; have GW110 := n3_; have GE110 := n4_; clear n0_ n1_ n2_ n3_ n4_; clear hb hbox hg; have hcz6_0 : w5.cell? ⟨gb110, 0, none⟩ = some (.int .u64 0) := (blk_cell BK110.out 0).trans rfl; have hcz6_1 : w5.cell? ⟨gb110, 1, none⟩ = some (.int .u64 0) := (blk_cell BK110.out 1).trans rfl; have hcz6_2 : w5.cell? ⟨gb110, 2, none⟩ = some (.slice none 0 0) := (blk_cell BK110.out 2).trans rfl; have hfz6_0 := blk_frozen BK110.out 0; have hfz6_1 := blk_frozen BK110.out 1; have hfz6_2 := blk_frozen BK110.out 2))
      go_loopg [6, 18] k1 (fun kq v6 v18 w' => ∃ (x6_2 : List (S84)) (x18_2 : Int), v18 = .int .i64 x18_2 ∧ Aside0 (epicyclelaw06_rows.l1 kq x3_1 x6_2 l0 (l0.length : Int) x11_1 ((rd_T71 l0 x11_1).f2) (((rd_T71 l0 x11_1).f2).length : Int) x18_2 ((rd_T71 l0 x11_1).f0) ((rd_T71 l0 x11_1).f1) ((rd_T71 l0 x11_1).f2) = some r) ∧ Aside0 (kq ≤ k1) ∧ Aside0 (Kd.S k57 57 w' w.heap.size (fun k_ => some k_ ≠ (v6 : Value).ownBlock) u3 x3_1) ∧ Aside0 (Kd.R k84 84 w' w.heap.size (fun _ => True) v6 x6_2) ∧ Aside0 (w'.heap[gb110]? = some (.cells #[.int .u64 ((rd_T71 l0 x11_1).f0), .int .u64 ((rd_T71 l0 x11_1).f1), (.slice A109_2 ((rd_T71 l0 x11_1).f2).length c109_2)] 71 (0, 0))) ∧ Aside0 (Below w.heap.size w w'))
      case atStart => exact ⟨(([] : List (S84))), (0), (by first | rfl | (simp; done) | (simp [*]; done)), H', ⟨Nat.le_refl _⟩, ⟨by (with_reducible repeat (first | apply Kd.S_alloc | apply Kd.S_drewN | apply Kd.S_drew)); exact Kd.S_mono (Kd.S_far (p := ⟨gb110, 2, none⟩) (Kd.S_far (p := ⟨gb110, 1, none⟩) (Kd.S_far (p := ⟨gb110, 0, none⟩) (Kd.S_types HO_3.out BK110.out (by decide)) (fun _ hk => hk.2) (.int .u64 ((rd_T71 l0 x11_1).f0))) (fun _ hk => hk.2) (.int .u64 ((rd_T71 l0 x11_1).f1))) (fun _ hk => hk.2) (.slice A109_2 ((rd_T71 l0 x11_1).f2).length c109_2)) (fun _ hk => (by simp [Value.ownBlock]))⟩, ⟨by first | exact Kd.R_nil _ _ _ _ _ | exact Kd.N_nil _ _ _ _ _ | exact Kd.V_nil _ _ _ _ _ | exact Kd.Q_nil _ _ _ _ _ | exact Kd.S_nil _ _ _ _ _⟩, ⟨by (with_reducible repeat (first | refine blk_drewN ?_ _ | refine blk_drew ?_ | refine blk_alloc ?_ _)); refine blk_put (cs := #[.int .u64 ((rd_T71 l0 x11_1).f0), .int .u64 ((rd_T71 l0 x11_1).f1), .slice none 0 0]) ?_ 2 _ rfl; (with_reducible repeat (first | refine blk_drewN ?_ _ | refine blk_drew ?_ | refine blk_alloc ?_ _)); refine blk_put (cs := #[.int .u64 ((rd_T71 l0 x11_1).f0), .int .u64 0, .slice none 0 0]) ?_ 1 _ rfl; (with_reducible repeat (first | refine blk_drewN ?_ _ | refine blk_drew ?_ | refine blk_alloc ?_ _)); refine blk_put (cs := #[.int .u64 0, .int .u64 0, .slice none 0 0]) ?_ 0 _ rfl; (with_reducible repeat (first | refine blk_drewN ?_ _ | refine blk_drew ?_ | refine blk_alloc ?_ _)); exact BK110.out⟩, ⟨by repeat (first | (with_reducible first | exact HB.out | apply below_alloc | apply pw_below_drewN | apply below_drew1 | refine below_set ?_ GE110.out) | exact HB.out)⟩⟩
      case round =>
       clear H'
       try clear c1
       try clear p1
       try clear q1
       try clear hx1
       try clear c2
       try clear c2b0
       try clear p2
       try clear c3
       try clear c3b0
       try clear c4
       try clear c4b0
       try clear hcz6_0
       try clear hcz6_1
       try clear hcz6_2
       try clear hfz6_0
       try clear hfz6_1
       try clear hfz6_2
       try clear hx109_0
       try clear hx109_1
       try clear hx109_2
       try clear p109
       try clear q109
       obtain ⟨x6_2, x18_2, rfl, HA, HK2, HO_3, HO_6, BK110, HB⟩ := hrel
       cases gk with
       | zero => exact absurd HA.out (by simp [epicyclelaw06_rows.l1])
       | succ k2 =>
        have H := HA.out
        clear HA
        simp only [epicyclelaw06_rows.l1] at H
        by_cases c7 : x18_2 < (((rd_T71 l0 x11_1).f2).length : Int)
        ·rw [if_pos c7] at H
         have c7b0 : decide (x18_2 < (((rd_T71 l0 x11_1).f2).length : Int)) = true := decide_eq_true c7
         clear c7
         by_cases c8 : 0 ≤ x18_2
         ·rw [if_pos c8] at H
          have c8b0 : decide (0 ≤ x18_2) = true := decide_eq_true c8
          clear c8
          by_cases c9 : x18_2 < (((rd_T71 l0 x11_1).f2).length : Int)
          ·rw [if_pos c9] at H
           have c9b0 : decide (x18_2 < (((rd_T71 l0 x11_1).f2).length : Int)) = true := decide_eq_true c9
           clear c9
           by_cases c10 : x6_2.length < 8796093022208
           ·rw [if_pos c10] at H
            have LMc10 := Aside0.mk c10
            clear c10
            obtain ⟨y113, hy113⟩ : ∃ y_ : List (S84), y_ = (x6_2 ++ [(⟨(rd_T83 ((rd_T71 l0 x11_1).f2) x18_2).f0, (rd_T83 ((rd_T71 l0 x11_1).f2) x18_2).f1⟩ : S84)]) := ⟨_, rfl⟩
            replace H : (epicyclelaw06_rows.l1 k2 x3_1 y113 l0 (l0.length : Int) x11_1 ((rd_T71 l0 x11_1).f2) (((rd_T71 l0 x11_1).f2).length : Int) (wrap64 (x18_2 + 1)) ((rd_T71 l0 x11_1).f0) ((rd_T71 l0 x11_1).f1) ((rd_T71 l0 x11_1).f2)) = some r := by first | (rw [hy113]; with_reducible exact H) | (have H2_ := (Option.bind_some _ _).symm.trans H; rw [hy113]; with_reducible exact H2_) | (have H2_ := (Option.bind_some _ _).symm.trans H; with_reducible exact H2_) | with_reducible exact H | (rw [hy113]; exact H) | exact H
            have Ny113 := Aside0.mk hy113
            clear hy113
            have H' := Aside0.mk H
            clear H
            have p111 : 0 ≤ (x18_2 : Int) := of_decide_eq_true (by first | (with_reducible assumption) | assumption)
            have q111 : x18_2 < (((rd_T71 l0 x11_1).f2).length : Int) := of_decide_eq_true (by first | (with_reducible assumption) | assumption)
            obtain ⟨ad111, e111, hx111_0, hx111_1⟩ := at_T83 HR109_2.out x18_2 p111 q111
            cases e111
            replace hx111_0 := (HB.out.cell (World.block_lt_of_cell? w _ hx111_0)).trans hx111_0
            replace hx111_1 := (HB.out.cell (World.block_lt_of_cell? w _ hx111_1)).trans hx111_1
            replace p111 := eq_true p111
            replace q111 := eq_true q111
            go_wp2_with (first | ((with_reducible refine gate_dst (N := 8) rfl ?_); refine box_event ?hg (N := 8) ?hd (cs := #[.int .u64 0, .int .i64 0]) (t := 83) ?hr ?_; (case hd => rfl); (case hg => rfl); (case hr => first | (go_simp; done) | (go_simp; rfl)); intro gb112 hg w11 hbox hb; have n0_ := Aside0.mk (Kd.S_below (by (with_reducible repeat (first | apply Kd.S_alloc | apply Kd.S_drewN | apply Kd.S_drew)); exact HO_3.out) hb); have n1_ := Aside0.mk (Kd.R_below (by (with_reducible repeat (first | apply Kd.R_alloc | apply Kd.R_drewN | apply Kd.R_drew)); exact HO_6.out) hb); have n2_ := Aside0.mk (blk_below (g := gb110) (o := .cells #[.int .u64 ((rd_T71 l0 x11_1).f0), .int .u64 ((rd_T71 l0 x11_1).f1), .slice (some ad111) ((rd_T71 l0 x11_1).f2).length c109_2] 71 (0, 0)) (by (with_reducible repeat (first | refine blk_drewN ?_ _ | refine blk_drew ?_ | refine blk_alloc ?_ _)); exact BK110.out) hb); have n3_ := Aside0.mk (below_step (by repeat (first | (with_reducible first | exact HB.out | apply below_alloc | apply pw_below_drewN | apply below_drew1 | refine below_set ?_ GE110.out) | exact HB.out)) hb); have n4_ := Aside0.mk (hbox); have n5_ := Aside0.mk ((by rw [hg]; exact (below_size (by repeat (first | (with_reducible first | exact HB.out | apply below_alloc | apply pw_below_drewN | apply below_drew1 | refine below_set ?_ GE110.out) | exact HB.out))) : w.heap.size ≤ gb112)); have n6_ := Aside0.mk ((by rw [hg]; exact (below_size (by repeat (first | (with_reducible first | exact HB.out | apply below_alloc | apply pw_below_drewN | apply below_drew1 | refine below_set ?_ GE110.out) | exact HB.out))) : w.heap.size ≤ gb112)); have n7_ := Aside0.mk ((by rw [hg]; exact Nat.ne_of_lt (blk_lt (g := gb110) (o := .cells #[.int .u64 ((rd_T71 l0 x11_1).f0), .int .u64 ((rd_T71 l0 x11_1).f1), .slice (some ad111) ((rd_T71 l0 x11_1).f2).length c109_2] 71 (0, 0)) (by (with_reducible repeat (first | refine blk_drewN ?_ _ | refine blk_drew ?_ | refine blk_alloc ?_ _)); exact BK110.out)) : gb110 ≠ gb112)); have n8_ := Aside0.mk ((by rw [hg]; exact Nat.ne_of_gt (blk_lt (g := gb110) (o := .cells #[.int .u64 ((rd_T71 l0 x11_1).f0), .int .u64 ((rd_T71 l0 x11_1).f1), .slice (some ad111) ((rd_T71 l0 x11_1).f2).length c109_2] 71 (0, 0)) (by (with_reducible repeat (first | refine blk_drewN ?_ _ | refine blk_drew ?_ | refine blk_alloc ?_ _)); exact BK110.out)) : gb112 ≠ gb110)); clear HO_3; clear HO_6; clear BK110; clear HB; have HO_3 := n0_; have HO_6 := n1_; have BK110 := n2_; have HB := n3_; have BK112 := n4_; have GW112 := n5_; have GE112 := n6_; have NB110_112 := n7_; have NB112_110 := n8_; clear n0_ n1_ n2_ n3_ n4_ n5_ n6_ n7_ n8_; clear hb hbox hg; have hnb12 := NB112_110.out; have hnc12 := NB110_112.out; have hcz13_0 : w11.cell? ⟨gb112, 0, none⟩ = some (.int .u64 0) := (blk_cell BK112.out 0).trans rfl; have hcz13_1 : w11.cell? ⟨gb112, 1, none⟩ = some (.int .i64 0) := (blk_cell BK112.out 1).trans rfl; have hfz13_0 := blk_frozen BK112.out 0; have hfz13_1 := blk_frozen BK112.out 1) | ((with_reducible refine gate_builtin (b := .append) (xs := #[.tmp 22, .tmp 24]) rfl ?_); at_builtin; refine Kd.R_append k84 (w0 := w) w.heap.size rfl (.tmp 22) (.tmp 24) 55 84 (.agg #[(.int .u64 0), (.int .i64 0)]) 16 rfl Tryz.underlying55 info84 rfl (by decide) (by omega) u6 x6_2 (⟨(rd_T83 ((rd_T71 l0 x11_1).f2) x18_2).f0, (rd_T83 ((rd_T71 l0 x11_1).f2) x18_2).f1⟩ : S84) [.int .u64 ((rd_T83 ((rd_T71 l0 x11_1).f2) x18_2).f0), .int .i64 ((rd_T83 ((rd_T71 l0 x11_1).f2) x18_2).f1)] (fun _ => True) (fun _ => False) rfl (by first | (go_simp; done) | (go_simp; rfl)) ?aP (fun _ hk => hk.elim) ?aF ?aO ?aB ?aS ?aL ?_; (case aP => exact k84_mkM _ _ _ (⟨(rd_T83 ((rd_T71 l0 x11_1).f2) x18_2).f0, (rd_T83 ((rd_T71 l0 x11_1).f2) x18_2).f1⟩ : S84)); (case aB => exact (by repeat (first | (with_reducible first | exact HB.out | apply below_alloc | apply pw_below_drewN | apply below_drew1 | refine below_set ?_ GE110.out | refine below_set ?_ GE112.out) | exact HB.out))); (case aF => exact (fun _ _ => trivial)); (case aO => exact (by (with_reducible repeat (first | apply Kd.R_alloc | apply Kd.R_drewN | apply Kd.R_drew)); exact Kd.R_mono (Kd.R_far (p := ⟨gb112, 1, none⟩) (Kd.R_far (p := ⟨gb112, 0, none⟩) (Kd.R_types HO_6.out BK112.out (by decide)) (fun _ hk => hk.2) (.int .u64 ((rd_T83 ((rd_T71 l0 x11_1).f2) x18_2).f0))) (fun _ hk => hk.2) (.int .i64 ((rd_T83 ((rd_T71 l0 x11_1).f2) x18_2).f1))) (fun _ hk => trivial))); (case aS => exact (below_size (by repeat (first | (with_reducible first | exact HB.out | apply below_alloc | apply pw_below_drewN | apply below_drew1 | refine below_set ?_ GE110.out | refine below_set ?_ GE112.out) | exact HB.out)))); (case aL => have := LMc10.out; omega); intro v114 w14 ho hb hg hat; rw [← Ny113.out] at ho; have n0_ := Aside0.mk (Kd.S_after (ok := (fun _ => True)) (by (with_reducible repeat (first | apply Kd.S_alloc | apply Kd.S_drewN | apply Kd.S_drew)); exact Kd.S_mono (Kd.S_far (p := ⟨gb112, 1, none⟩) (Kd.S_far (p := ⟨gb112, 0, none⟩) (Kd.S_types HO_3.out BK112.out (by decide)) (fun _ hk => hk.2) (.int .u64 ((rd_T83 ((rd_T71 l0 x11_1).f2) x18_2).f0))) (fun _ hk => hk.2) (.int .i64 ((rd_T83 ((rd_T71 l0 x11_1).f2) x18_2).f1))) (fun _ hk => ⟨trivial, hk.1⟩)) hg hat); have n1_ := Aside0.mk (blk_grown (g := gb110) (o := .cells #[.int .u64 ((rd_T71 l0 x11_1).f0), .int .u64 ((rd_T71 l0 x11_1).f1), .slice (some ad111) ((rd_T71 l0 x11_1).f2).length c109_2] 71 (0, 0)) (by (with_reducible repeat (first | refine blk_drewN ?_ _ | refine blk_drew ?_ | refine blk_alloc ?_ _)); refine blk_far ?_ NB110_112.out _; (with_reducible repeat (first | refine blk_drewN ?_ _ | refine blk_drew ?_ | refine blk_alloc ?_ _)); refine blk_far ?_ NB110_112.out _; (with_reducible repeat (first | refine blk_drewN ?_ _ | refine blk_drew ?_ | refine blk_alloc ?_ _)); exact BK110.out) hg (Kd.R_ne HO_6.out BK110.out (by decide))); have n2_ := Aside0.mk (blk_grown (g := gb112) (o := .cells #[.int .u64 ((rd_T83 ((rd_T71 l0 x11_1).f2) x18_2).f0), .int .i64 ((rd_T83 ((rd_T71 l0 x11_1).f2) x18_2).f1)] 83 (0, 0)) (by (with_reducible repeat (first | refine blk_drewN ?_ _ | refine blk_drew ?_ | refine blk_alloc ?_ _)); refine blk_put (cs := #[.int .u64 ((rd_T83 ((rd_T71 l0 x11_1).f2) x18_2).f0), .int .i64 0]) ?_ 1 _ rfl; (with_reducible repeat (first | refine blk_drewN ?_ _ | refine blk_drew ?_ | refine blk_alloc ?_ _)); refine blk_put (cs := #[.int .u64 0, .int .i64 0]) ?_ 0 _ rfl; (with_reducible repeat (first | refine blk_drewN ?_ _ | refine blk_drew ?_ | refine blk_alloc ?_ _)); exact BK112.out) hg (Kd.R_ne HO_6.out BK112.out (by decide))); have n3_ := Aside0.mk (hb); have n4_ := Aside0.mk (ho); clear HO_3; clear BK110; clear BK112; clear HB; clear HO_6; have HO_3 := n0_; have BK110 := n1_; have BK112 := n2_; have HB := n3_; have HO115 := n4_; clear n0_ n1_ n2_ n3_ n4_; clear ho hb hg hat))
            go_roundg k2
            case measure => have := HK1.out; have := HK2.out; omega
            case rel => exact ⟨(y113), (wrap64 (x18_2 + 1)), (by first | rfl | (simp; done) | (simp [*]; done)), H', ⟨by have := HK1.out; have := HK2.out; omega⟩, ⟨by (with_reducible repeat (first | apply Kd.S_alloc | apply Kd.S_drewN | apply Kd.S_drew)); exact Kd.S_mono HO_3.out (fun _ hk => hk.2)⟩, ⟨by (with_reducible repeat (first | apply Kd.R_alloc | apply Kd.R_drewN | apply Kd.R_drew)); exact HO115.out⟩, ⟨by (with_reducible repeat (first | refine blk_drewN ?_ _ | refine blk_drew ?_ | refine blk_alloc ?_ _)); exact BK110.out⟩, ⟨by repeat (first | (with_reducible first | exact HB.out | apply below_alloc | apply pw_below_drewN | apply below_drew1 | refine below_set ?_ GE110.out | refine below_set ?_ GE112.out) | exact HB.out)⟩⟩
           ·rw [if_neg c10] at H
            exact absurd H (by simp)
          ·rw [if_neg c9] at H
           exact absurd H (by simp)
         ·rw [if_neg c8] at H
          exact absurd H (by simp)
        ·rw [if_neg c7] at H
         have c7b0 : decide (x18_2 < (((rd_T71 l0 x11_1).f2).length : Int)) = false := decide_eq_false c7
         clear c7
         by_cases c15 : x3_1.length < 3518437208883
         ·rw [if_pos c15] at H
          have LMc15 := Aside0.mk c15
          clear c15
          obtain ⟨y116, hy116⟩ : ∃ y_ : List (S57), y_ = (x3_1 ++ [(⟨((rd_T71 l0 x11_1).f0), ((rd_T71 l0 x11_1).f1), x6_2⟩ : S57)]) := ⟨_, rfl⟩
          replace H : (epicyclelaw06_rows.l0 k2 y116 l0 (l0.length : Int) (wrap64 (x11_1 + 1))) = some r := by first | (rw [hy116]; with_reducible exact H) | (have H2_ := (Option.bind_some _ _).symm.trans H; rw [hy116]; with_reducible exact H2_) | (have H2_ := (Option.bind_some _ _).symm.trans H; with_reducible exact H2_) | with_reducible exact H | (rw [hy116]; exact H) | exact H
          have Ny116 := Aside0.mk hy116
          clear hy116
          have H' := Aside0.mk H
          clear H
          have hcz16_0 : wr.cell? ⟨gb110, 0, none⟩ = some (.int .u64 ((rd_T71 l0 x11_1).f0)) := (blk_cell BK110.out 0).trans rfl
          have hcz16_1 : wr.cell? ⟨gb110, 1, none⟩ = some (.int .u64 ((rd_T71 l0 x11_1).f1)) := (blk_cell BK110.out 1).trans rfl
          have hcz16_2 : wr.cell? ⟨gb110, 2, none⟩ = some (.slice A109_2 ((rd_T71 l0 x11_1).f2).length c109_2) := (blk_cell BK110.out 2).trans rfl
          have hfz16_0 := blk_frozen BK110.out 0
          have hfz16_1 := blk_frozen BK110.out 1
          have hfz16_2 := blk_frozen BK110.out 2
          obtain ⟨Ao17, co17, eo17⟩ := Kd.R_slice HO_6.out
          subst eo17
          go_wp2_with (first | ((with_reducible refine gate_builtin (b := .append) (xs := #[.tmp 27, .tmp 34]) rfl ?_); at_builtin; refine Kd.S_append k57 (w0 := w) w.heap.size rfl (.tmp 27) (.tmp 34) 52 57 (.agg #[(.int .u64 0), (.int .u64 0), (.slice none 0 0)]) 40 rfl Tryz.underlying52 info57 rfl (by decide) (by omega) u3 x3_1 (⟨((rd_T71 l0 x11_1).f0), ((rd_T71 l0 x11_1).f1), x6_2⟩ : S57) [.int .u64 ((rd_T71 l0 x11_1).f0), .int .u64 ((rd_T71 l0 x11_1).f1), .slice Ao17 x6_2.length co17] (fun _ => True) (fun k_ => some k_ = (.slice Ao17 x6_2.length co17 : Value).ownBlock) rfl rfl ?aP (fun k_ hk_ => ((Kd.R_mono (ok' := fun k_ => ((fun _ => True)) k_ ∧ some k_ ≠ (u3 : Value).ownBlock) (Kd.R_apart' (HO_6.out) (Kd.S_typed HO_3.out) (by decide)) (fun k_ hk => ⟨trivial, hk.2⟩))).1 k_ hk_.symm) ?aF ?aO ?aB ?aS ?aL ?_; (case aP => exact k57_mkM _ _ _ (⟨((rd_T71 l0 x11_1).f0), ((rd_T71 l0 x11_1).f1), x6_2⟩ : S57) (Kd.R_mono (Kd.R_tight rfl (Kd.R_mono (ok' := fun k_ => ((fun _ => True)) k_ ∧ some k_ ≠ (u3 : Value).ownBlock) (Kd.R_apart' (HO_6.out) (Kd.S_typed HO_3.out) (by decide)) (fun k_ hk => ⟨trivial, hk.2⟩))) (fun _ h_ => h_))); (case aB => exact (by repeat (first | (with_reducible first | exact HB.out | apply below_alloc | apply pw_below_drewN | apply below_drew1 | refine below_set ?_ GE110.out) | exact HB.out))); (case aF => exact (fun _ _ => trivial)); (case aO => exact (by (with_reducible repeat (first | apply Kd.S_alloc | apply Kd.S_drewN | apply Kd.S_drew)); exact Kd.S_mono HO_3.out (fun k_ hk => ⟨trivial, fun e_ => hk e_⟩))); (case aS => exact (below_size (by repeat (first | (with_reducible first | exact HB.out | apply below_alloc | apply pw_below_drewN | apply below_drew1 | refine below_set ?_ GE110.out) | exact HB.out)))); (case aL => have := LMc15.out; omega); intro v117 w18 ho hb hg hat; rw [← Ny116.out] at ho; have n0_ := Aside0.mk (blk_grown (g := gb110) (o := .cells #[.int .u64 ((rd_T71 l0 x11_1).f0), .int .u64 ((rd_T71 l0 x11_1).f1), .slice A109_2 ((rd_T71 l0 x11_1).f2).length c109_2] 71 (0, 0)) (by (with_reducible repeat (first | refine blk_drewN ?_ _ | refine blk_drew ?_ | refine blk_alloc ?_ _)); exact BK110.out) hg (Kd.S_ne HO_3.out BK110.out (by decide))); have n1_ := Aside0.mk (hb); have n2_ := Aside0.mk (ho); clear BK110; clear HB; clear HO_3; clear HO_6; have BK110 := n0_; have HB := n1_; have HO118 := n2_; clear n0_ n1_ n2_; clear ho hb hg hat))
          go_roundg k2
          case measure => have := HK1.out; have := HK2.out; omega
          case rel => exact ⟨(y116), (wrap64 (x11_1 + 1)), (by first | rfl | (simp; done) | (simp [*]; done)), H', ⟨by have := HK1.out; have := HK2.out; omega⟩, ⟨by (with_reducible repeat (first | apply Kd.S_alloc | apply Kd.S_drewN | apply Kd.S_drew)); exact HO118.out⟩, ⟨by repeat (first | (with_reducible first | exact HB.out | apply below_alloc | apply pw_below_drewN | apply below_drew1 | refine below_set ?_ GE110.out) | exact HB.out)⟩⟩
         ·rw [if_neg c15] at H
          exact absurd H (by simp)
     ·rw [if_neg c4] at H
      exact absurd H (by simp)
    ·rw [if_neg c3] at H
     exact absurd H (by simp)
   ·rw [if_neg c2] at H
    have c2b0 : decide (x11_1 < (l0.length : Int)) = false := decide_eq_false c2
    clear c2
    obtain rfl := Option.some.inj H
    go_wp2
    go_ret
    exact ⟨_, by first | rfl | (simp [errW_none, errW_some] <;> rfl) | (simp [*, errW_none, errW_some] <;> rfl), by (with_reducible repeat (first | apply Kd.S_alloc | apply Kd.S_drewN | apply Kd.S_drew)); exact HO_3.out, by repeat (first | (with_reducible first | exact HB.out | apply below_alloc | apply pw_below_drewN | apply below_drew1) | exact HB.out)⟩
noncomputable def epicyclelaw06_made.f (k : Nat) (a0_0 : Int) (a0_1 : Int) (a0_2 : Int) (l0_3 : List (S71)) : Option ((List (Fld)) × Int × Int) := (epicycleref06_Of.f k a0_0 a0_1 a0_2 l0_3).bind fun bt120 => (if a0_0 = 0 then ((field_Small.f k a0_2).bind fun bt123 => (some (bt123.1, bt120.1, bt120.2.1))) else (if a0_0 = 1 then ((field_Known.f k a0_1).bind fun bt127 => (some (bt127.1, bt120.1, bt120.2.1))) else (if (l0_3.length : Int) ≤ 40 then ((epicyclelaw06_rows.f k l0_3).bind fun t131 => ((field_New.f k t131 a0_2).bind fun bt134 => (some (bt134.1, bt120.1, bt120.2.1)))) else (some (([] : List (Fld)), bt120.1, bt120.2.1)))))
def epicyclelaw06_made.T5 : Bool × List (List Nat × List Nat) := (true, [([], []), ([0], [0]), ([1], [1]), ([], []), ([3], [3]), ([2, 4, 2], [2, 4]), ([5], [5]), ([6], [6]), ([6], [6]), ([7, 5, 0, 1, 2, 3, 4, 5, 6, 7], [7])])
def epicyclelaw06_made.B5 : List Nat := [0, 1, 3, 0, 8, 31, 63, 127, 127, 255]
theorem epicyclelaw06_made.tab5 : rtab .any (opsOf Tryz.f6 5) = epicyclelaw06_made.T5 := by kernel_rfl
theorem epicyclelaw06_made.bits5 : waitsOk epicyclelaw06_made.T5.2 epicyclelaw06_made.B5 = true := by kernel_rfl
set_option maxHeartbeats 8000000 in
set_option maxRecDepth 100000 in
theorem epicyclelaw06_made.calls (k : Nat) (a0_0 : Int) (a0_1 : Int) (a0_2 : Int) (A0_3 : Option Addr) (c0_3 : Nat) (l0_3 : List (S71)) (r1 : List (Fld)) (r2 : Int) (r3 : Int) (w : World) (hr0_3 : Kd.C k71 w A0_3 l0_3.length l0_3) (hc0_3 : l0_3.length ≤ c0_3) (h : epicyclelaw06_made.f k a0_0 a0_1 a0_2 l0_3 = some (r1, r2, r3)) :
  Calls Tryz.prog 6 #[.agg #[.int .i64 a0_0, .int .i64 a0_1, .int .u64 a0_2, .slice A0_3 l0_3.length c0_3]] w fun e w' => ∃ v0_ : Value, e = .returned (.tuple #[toPtr v0_, .int .u64 r2, .int .u64 r3]) ∧ Kd.R kFld 59 w' w.heap.size (fun _ => True) v0_ r1 ∧ Below w.heap.size w w' := by
 have hu25 := Tryz.underlying25
 have HR0_3 := Aside0.mk hr0_3
 have HC0_3 := Aside0.mk hc0_3
 clear hr0_3 hc0_3
 have HB := Aside0.mk (Below.refl w.heap.size w)
 have H : ((epicycleref06_Of.f k a0_0 a0_1 a0_2 l0_3).bind fun bt120 => (if a0_0 = 0 then ((field_Small.f k a0_2).bind fun bt123 => (some (bt123.1, bt120.1, bt120.2.1))) else (if a0_0 = 1 then ((field_Known.f k a0_1).bind fun bt127 => (some (bt127.1, bt120.1, bt120.2.1))) else (if (l0_3.length : Int) ≤ 40 then ((epicyclelaw06_rows.f k l0_3).bind fun t131 => ((field_New.f k t131 a0_2).bind fun bt134 => (some (bt134.1, bt120.1, bt120.2.1)))) else (some (([] : List (Fld)), bt120.1, bt120.2.1)))))) = some (r1, r2, r3) := h
 clear h
 replace H := Option.bind_eq_some_iff.mp H
 obtain ⟨⟨t120, t121, t122⟩, A20, H⟩ := H
 replace H : (if a0_0 = 0 then ((field_Small.f k a0_2).bind fun bt123 => (some (bt123.1, t120, t121))) else (if a0_0 = 1 then ((field_Known.f k a0_1).bind fun bt127 => (some (bt127.1, t120, t121))) else (if (l0_3.length : Int) ≤ 40 then ((epicyclelaw06_rows.f k l0_3).bind fun t131 => ((field_New.f k t131 a0_2).bind fun bt134 => (some (bt134.1, t120, t121)))) else (some (([] : List (Fld)), t120, t121))))) = some (r1, r2, r3) := H
 have A2 := Aside0.mk A20
 clear A20
 by_cases c3 : a0_0 = 0
 ·rw [if_pos c3] at H
  have c3b0 : (a0_0 == 0) = true := beq_iff_eq.mpr c3
  have c3b1 : (a0_0 != 0) = false := bne_eq_false_iff_eq.mpr c3
  clear c3
  replace H := Option.bind_eq_some_iff.mp H
  obtain ⟨⟨t123, t124⟩, A40, H⟩ := H
  replace H : (some (t123, t120, t121)) = some (r1, r2, r3) := H
  have A4 := Aside0.mk A40
  clear A40
  simp only [Option.some.injEq, Prod.mk.injEq] at H
  obtain ⟨rfl, rfl, rfl⟩ := H
  go_enter Tryz.func6, Tryz.ntmps6
  go_wp2_with (first | ((with_reducible refine gate_dst (N := 1) rfl ?_); refine box_event ?hg (N := 1) ?hd (cs := #[.int .i64 a0_0, .int .i64 a0_1, .int .u64 a0_2, .slice A0_3 l0_3.length c0_3]) (t := 25) ?hr ?_; (case hd => rfl); (case hg => rfl); (case hr => first | (go_simp; done) | (go_simp; rfl)); intro gb119 hg w5 hbox hb; have n0_ := Aside0.mk (below_step (by repeat (first | (with_reducible first | exact HB.out | apply below_alloc | apply pw_below_drewN | apply below_drew1) | exact HB.out)) hb); have n1_ := Aside0.mk (hbox); have n2_ := Aside0.mk ((by rw [hg]; exact (below_size (by repeat (first | (with_reducible first | exact HB.out | apply below_alloc | apply pw_below_drewN | apply below_drew1) | exact HB.out))) : w.heap.size ≤ gb119)); have n3_ := Aside0.mk ((by rw [hg]; exact (below_size (by repeat (first | (with_reducible first | exact HB.out | apply below_alloc | apply pw_below_drewN | apply below_drew1) | exact HB.out))) : w.heap.size ≤ gb119)); clear HB; have HB := n0_; have BK119 := n1_; have GW119 := n2_; have GE119 := n3_; clear n0_ n1_ n2_ n3_; clear hb hbox hg; have hcz6_0 : w5.cell? ⟨gb119, 0, none⟩ = some (.int .i64 a0_0) := (blk_cell BK119.out 0).trans rfl; have hcz6_1 : w5.cell? ⟨gb119, 1, none⟩ = some (.int .i64 a0_1) := (blk_cell BK119.out 1).trans rfl; have hcz6_2 : w5.cell? ⟨gb119, 2, none⟩ = some (.int .u64 a0_2) := (blk_cell BK119.out 2).trans rfl; have hcz6_3 : w5.cell? ⟨gb119, 3, none⟩ = some (.slice A0_3 l0_3.length c0_3) := (blk_cell BK119.out 3).trans rfl; have hfz6_0 := blk_frozen BK119.out 0; have hfz6_1 := blk_frozen BK119.out 1; have hfz6_2 := blk_frozen BK119.out 2; have hfz6_3 := blk_frozen BK119.out 3) | ((with_reducible refine gate_callee (f := 31) rfl ?_); refine goesL_ (some 11) rfl rfl Tryz.func31 (by kernel_rfl) rfl #[.agg #[.int .i64 a0_0, .int .i64 a0_1, .int .u64 a0_2, .slice A0_3 l0_3.length c0_3]] rfl (by (try simp only [List.map_toArray, List.map_cons, List.map_nil]); first | done | rfl | (simp only [List.length_drop, List.length_take]; rfl)) ?_; (with_reducible refine (epicycleref06_Of.calls k a0_0 a0_1 a0_2 _ _ l0_3 t120 t121 t122 _ ?side1 ?side2 A2.out).mono ?_); (case side1 => repeat (first | exact (Kd.C_below HR0_3.out HB.out) | (with_reducible refine Kd.C_alloc ?_ _) | (with_reducible refine Kd.C_drewN ?_ _) | (with_reducible refine Kd.C_drew ?_))); (case side2 => exact HC0_3.out); rintro e w7 ⟨rfl, hb⟩; refine ⟨_, rfl, ?_⟩; have n0_ := Aside0.mk (blk_below (g := gb119) (o := .cells #[.int .i64 a0_0, .int .i64 a0_1, .int .u64 a0_2, .slice A0_3 l0_3.length c0_3] 25 (0, 0)) (by (with_reducible repeat (first | refine blk_drewN ?_ _ | refine blk_drew ?_ | refine blk_alloc ?_ _)); exact BK119.out) hb); have n1_ := Aside0.mk (below_step (by repeat (first | (with_reducible first | exact HB.out | apply below_alloc | apply pw_below_drewN | apply below_drew1 | refine below_set ?_ GE119.out) | exact HB.out)) hb); clear BK119; clear HB; have BK119 := n0_; have HB := n1_; clear n0_ n1_; (try clear hb); (try clear hb2); (try clear hk); (try clear hi); have hcz8_0 : w7.cell? ⟨gb119, 0, none⟩ = some (.int .i64 a0_0) := (blk_cell BK119.out 0).trans rfl; have hcz8_1 : w7.cell? ⟨gb119, 1, none⟩ = some (.int .i64 a0_1) := (blk_cell BK119.out 1).trans rfl; have hcz8_2 : w7.cell? ⟨gb119, 2, none⟩ = some (.int .u64 a0_2) := (blk_cell BK119.out 2).trans rfl; have hcz8_3 : w7.cell? ⟨gb119, 3, none⟩ = some (.slice A0_3 l0_3.length c0_3) := (blk_cell BK119.out 3).trans rfl; have hfz8_0 := blk_frozen BK119.out 0; have hfz8_1 := blk_frozen BK119.out 1; have hfz8_2 := blk_frozen BK119.out 2; have hfz8_3 := blk_frozen BK119.out 3) | ((with_reducible refine gate_callee (f := 28) rfl ?_); refine goesL_ (some 35) rfl rfl Tryz.func28 (by kernel_rfl) rfl #[.int .u64 a0_2] rfl (by (try simp only [List.map_toArray, List.map_cons, List.map_nil]); first | done | rfl | (simp only [List.length_drop, List.length_take]; rfl)) ?_; (with_reducible refine (field_Small.calls k a0_2 t123 t124 _ A4.out).mono ?_); rintro e w9 ⟨v125, rfl, ho0, hb⟩; refine ⟨_, rfl, ?_⟩; have n0_ := Aside0.mk (Kd.R_lower ho0 (below_size (by repeat (first | (with_reducible first | exact HB.out | apply below_alloc | apply pw_below_drewN | apply below_drew1 | refine below_set ?_ GE119.out) | exact HB.out)))); have n1_ := Aside0.mk (blk_below (g := gb119) (o := .cells #[.int .i64 a0_0, .int .i64 a0_1, .int .u64 a0_2, .slice A0_3 l0_3.length c0_3] 25 (0, 0)) (by (with_reducible repeat (first | refine blk_drewN ?_ _ | refine blk_drew ?_ | refine blk_alloc ?_ _)); exact BK119.out) hb); have n2_ := Aside0.mk (below_step (by repeat (first | (with_reducible first | exact HB.out | apply below_alloc | apply pw_below_drewN | apply below_drew1 | refine below_set ?_ GE119.out) | exact HB.out)) hb); clear BK119; clear HB; have HO126 := n0_; have BK119 := n1_; have HB := n2_; clear n0_ n1_ n2_; (try clear hb); (try clear hb2); (try clear hk); (try clear hi); (try clear ho0)))
  go_ret3
  exact ⟨_, by first | rfl | (simp [errW_none, errW_some] <;> rfl) | (simp [*, errW_none, errW_some] <;> rfl), by (with_reducible repeat (first | apply Kd.R_alloc | apply Kd.R_drewN | apply Kd.R_drew)); exact HO126.out, by repeat (first | (with_reducible first | exact HB.out | apply below_alloc | apply pw_below_drewN | apply below_drew1 | refine below_set ?_ GE119.out) | exact HB.out)⟩
 ·rw [if_neg c3] at H
  have c3b0 : (a0_0 == 0) = false := beq_eq_false_iff_ne.mpr c3
  have c3b1 : (a0_0 != 0) = true := bne_iff_ne.mpr c3
  by_cases c10 : a0_0 = 1
  ·rw [if_pos c10] at H
   have c10b0 : (a0_0 == 1) = true := beq_iff_eq.mpr c10
   have c10b1 : (a0_0 != 1) = false := bne_eq_false_iff_eq.mpr c10
   clear c10
   replace H := Option.bind_eq_some_iff.mp H
   obtain ⟨⟨t127, t128⟩, A110, H⟩ := H
   replace H : (some (t127, t120, t121)) = some (r1, r2, r3) := H
   have A11 := Aside0.mk A110
   clear A110
   simp only [Option.some.injEq, Prod.mk.injEq] at H
   obtain ⟨rfl, rfl, rfl⟩ := H
   go_enter Tryz.func6, Tryz.ntmps6
   go_wp2_with (first | ((with_reducible refine gate_dst (N := 1) rfl ?_); refine box_event ?hg (N := 1) ?hd (cs := #[.int .i64 a0_0, .int .i64 a0_1, .int .u64 a0_2, .slice A0_3 l0_3.length c0_3]) (t := 25) ?hr ?_; (case hd => rfl); (case hg => rfl); (case hr => first | (go_simp; done) | (go_simp; rfl)); intro gb119 hg w12 hbox hb; have n0_ := Aside0.mk (below_step (by repeat (first | (with_reducible first | exact HB.out | apply below_alloc | apply pw_below_drewN | apply below_drew1) | exact HB.out)) hb); have n1_ := Aside0.mk (hbox); have n2_ := Aside0.mk ((by rw [hg]; exact (below_size (by repeat (first | (with_reducible first | exact HB.out | apply below_alloc | apply pw_below_drewN | apply below_drew1) | exact HB.out))) : w.heap.size ≤ gb119)); have n3_ := Aside0.mk ((by rw [hg]; exact (below_size (by repeat (first | (with_reducible first | exact HB.out | apply below_alloc | apply pw_below_drewN | apply below_drew1) | exact HB.out))) : w.heap.size ≤ gb119)); clear HB; have HB := n0_; have BK119 := n1_; have GW119 := n2_; have GE119 := n3_; clear n0_ n1_ n2_ n3_; clear hb hbox hg; have hcz13_0 : w12.cell? ⟨gb119, 0, none⟩ = some (.int .i64 a0_0) := (blk_cell BK119.out 0).trans rfl; have hcz13_1 : w12.cell? ⟨gb119, 1, none⟩ = some (.int .i64 a0_1) := (blk_cell BK119.out 1).trans rfl; have hcz13_2 : w12.cell? ⟨gb119, 2, none⟩ = some (.int .u64 a0_2) := (blk_cell BK119.out 2).trans rfl; have hcz13_3 : w12.cell? ⟨gb119, 3, none⟩ = some (.slice A0_3 l0_3.length c0_3) := (blk_cell BK119.out 3).trans rfl; have hfz13_0 := blk_frozen BK119.out 0; have hfz13_1 := blk_frozen BK119.out 1; have hfz13_2 := blk_frozen BK119.out 2; have hfz13_3 := blk_frozen BK119.out 3) | ((with_reducible refine gate_callee (f := 31) rfl ?_); refine goesL_ (some 11) rfl rfl Tryz.func31 (by kernel_rfl) rfl #[.agg #[.int .i64 a0_0, .int .i64 a0_1, .int .u64 a0_2, .slice A0_3 l0_3.length c0_3]] rfl (by (try simp only [List.map_toArray, List.map_cons, List.map_nil]); first | done | rfl | (simp only [List.length_drop, List.length_take]; rfl)) ?_; (with_reducible refine (epicycleref06_Of.calls k a0_0 a0_1 a0_2 _ _ l0_3 t120 t121 t122 _ ?side1 ?side2 A2.out).mono ?_); (case side1 => repeat (first | exact (Kd.C_below HR0_3.out HB.out) | (with_reducible refine Kd.C_alloc ?_ _) | (with_reducible refine Kd.C_drewN ?_ _) | (with_reducible refine Kd.C_drew ?_))); (case side2 => exact HC0_3.out); rintro e w14 ⟨rfl, hb⟩; refine ⟨_, rfl, ?_⟩; have n0_ := Aside0.mk (blk_below (g := gb119) (o := .cells #[.int .i64 a0_0, .int .i64 a0_1, .int .u64 a0_2, .slice A0_3 l0_3.length c0_3] 25 (0, 0)) (by (with_reducible repeat (first | refine blk_drewN ?_ _ | refine blk_drew ?_ | refine blk_alloc ?_ _)); exact BK119.out) hb); have n1_ := Aside0.mk (below_step (by repeat (first | (with_reducible first | exact HB.out | apply below_alloc | apply pw_below_drewN | apply below_drew1 | refine below_set ?_ GE119.out) | exact HB.out)) hb); clear BK119; clear HB; have BK119 := n0_; have HB := n1_; clear n0_ n1_; (try clear hb); (try clear hb2); (try clear hk); (try clear hi); have hcz15_0 : w14.cell? ⟨gb119, 0, none⟩ = some (.int .i64 a0_0) := (blk_cell BK119.out 0).trans rfl; have hcz15_1 : w14.cell? ⟨gb119, 1, none⟩ = some (.int .i64 a0_1) := (blk_cell BK119.out 1).trans rfl; have hcz15_2 : w14.cell? ⟨gb119, 2, none⟩ = some (.int .u64 a0_2) := (blk_cell BK119.out 2).trans rfl; have hcz15_3 : w14.cell? ⟨gb119, 3, none⟩ = some (.slice A0_3 l0_3.length c0_3) := (blk_cell BK119.out 3).trans rfl; have hfz15_0 := blk_frozen BK119.out 0; have hfz15_1 := blk_frozen BK119.out 1; have hfz15_2 := blk_frozen BK119.out 2; have hfz15_3 := blk_frozen BK119.out 3) | ((with_reducible refine gate_callee (f := 32) rfl ?_); refine goesL_ (some 43) rfl rfl Tryz.func32 (by kernel_rfl) rfl #[.int .i64 a0_1] rfl (by (try simp only [List.map_toArray, List.map_cons, List.map_nil]); first | done | rfl | (simp only [List.length_drop, List.length_take]; rfl)) ?_; (with_reducible refine (field_Known.calls k a0_1 t127 t128 _ A11.out).mono ?_); rintro e w16 ⟨v129, rfl, ho0, hb⟩; refine ⟨_, rfl, ?_⟩; have n0_ := Aside0.mk (Kd.R_lower ho0 (below_size (by repeat (first | (with_reducible first | exact HB.out | apply below_alloc | apply pw_below_drewN | apply below_drew1 | refine below_set ?_ GE119.out) | exact HB.out)))); have n1_ := Aside0.mk (blk_below (g := gb119) (o := .cells #[.int .i64 a0_0, .int .i64 a0_1, .int .u64 a0_2, .slice A0_3 l0_3.length c0_3] 25 (0, 0)) (by (with_reducible repeat (first | refine blk_drewN ?_ _ | refine blk_drew ?_ | refine blk_alloc ?_ _)); exact BK119.out) hb); have n2_ := Aside0.mk (below_step (by repeat (first | (with_reducible first | exact HB.out | apply below_alloc | apply pw_below_drewN | apply below_drew1 | refine below_set ?_ GE119.out) | exact HB.out)) hb); clear BK119; clear HB; have HO130 := n0_; have BK119 := n1_; have HB := n2_; clear n0_ n1_ n2_; (try clear hb); (try clear hb2); (try clear hk); (try clear hi); (try clear ho0)))
   go_ret3
   exact ⟨_, by first | rfl | (simp [errW_none, errW_some] <;> rfl) | (simp [*, errW_none, errW_some] <;> rfl), by (with_reducible repeat (first | apply Kd.R_alloc | apply Kd.R_drewN | apply Kd.R_drew)); exact HO130.out, by repeat (first | (with_reducible first | exact HB.out | apply below_alloc | apply pw_below_drewN | apply below_drew1 | refine below_set ?_ GE119.out) | exact HB.out)⟩
  ·rw [if_neg c10] at H
   have c10b0 : (a0_0 == 1) = false := beq_eq_false_iff_ne.mpr c10
   have c10b1 : (a0_0 != 1) = true := bne_iff_ne.mpr c10
   by_cases c17 : (l0_3.length : Int) ≤ 40
   ·rw [if_pos c17] at H
    have c17b0 : decide ((l0_3.length : Int) ≤ 40) = true := decide_eq_true c17
    have c17b1 : decide (l0_3.length ≤ 40) = true := decide_eq_true (by omega)
    clear c17
    replace H := Option.bind_eq_some_iff.mp H
    obtain ⟨t131, A180, H⟩ := H
    replace H : ((field_New.f k t131 a0_2).bind fun bt134 => (some (bt134.1, t120, t121))) = some (r1, r2, r3) := H
    have A18 := Aside0.mk A180
    clear A180
    replace H := Option.bind_eq_some_iff.mp H
    obtain ⟨⟨t134, t135⟩, A190, H⟩ := H
    replace H : (some (t134, t120, t121)) = some (r1, r2, r3) := H
    have A19 := Aside0.mk A190
    clear A190
    simp only [Option.some.injEq, Prod.mk.injEq] at H
    obtain ⟨rfl, rfl, rfl⟩ := H
    go_enter Tryz.func6, Tryz.ntmps6
    try go_wp2_with (first | ((with_reducible refine gate_dst (N := 1) rfl ?_); refine box_event ?hg (N := 1) ?hd (cs := #[.int .i64 a0_0, .int .i64 a0_1, .int .u64 a0_2, .slice A0_3 l0_3.length c0_3]) (t := 25) ?hr ?_; (case hd => rfl); (case hg => rfl); (case hr => first | (go_simp; done) | (go_simp; rfl)); intro gb119 hg w20 hbox hb; have n0_ := Aside0.mk (below_step (by repeat (first | (with_reducible first | exact HB.out | apply below_alloc | apply pw_below_drewN | apply below_drew1) | exact HB.out)) hb); have n1_ := Aside0.mk (hbox); have n2_ := Aside0.mk ((by rw [hg]; exact (below_size (by repeat (first | (with_reducible first | exact HB.out | apply below_alloc | apply pw_below_drewN | apply below_drew1) | exact HB.out))) : w.heap.size ≤ gb119)); have n3_ := Aside0.mk ((by rw [hg]; exact (below_size (by repeat (first | (with_reducible first | exact HB.out | apply below_alloc | apply pw_below_drewN | apply below_drew1) | exact HB.out))) : w.heap.size ≤ gb119)); clear HB; have HB := n0_; have BK119 := n1_; have GW119 := n2_; have GE119 := n3_; clear n0_ n1_ n2_ n3_; clear hb hbox hg; have hcz21_0 : w20.cell? ⟨gb119, 0, none⟩ = some (.int .i64 a0_0) := (blk_cell BK119.out 0).trans rfl; have hcz21_1 : w20.cell? ⟨gb119, 1, none⟩ = some (.int .i64 a0_1) := (blk_cell BK119.out 1).trans rfl; have hcz21_2 : w20.cell? ⟨gb119, 2, none⟩ = some (.int .u64 a0_2) := (blk_cell BK119.out 2).trans rfl; have hcz21_3 : w20.cell? ⟨gb119, 3, none⟩ = some (.slice A0_3 l0_3.length c0_3) := (blk_cell BK119.out 3).trans rfl; have hfz21_0 := blk_frozen BK119.out 0; have hfz21_1 := blk_frozen BK119.out 1; have hfz21_2 := blk_frozen BK119.out 2; have hfz21_3 := blk_frozen BK119.out 3) | ((with_reducible refine gate_callee (f := 31) rfl ?_); refine goesL_ (some 11) rfl rfl Tryz.func31 (by kernel_rfl) rfl #[.agg #[.int .i64 a0_0, .int .i64 a0_1, .int .u64 a0_2, .slice A0_3 l0_3.length c0_3]] rfl (by (try simp only [List.map_toArray, List.map_cons, List.map_nil]); first | done | rfl | (simp only [List.length_drop, List.length_take]; rfl)) ?_; (with_reducible refine (epicycleref06_Of.calls k a0_0 a0_1 a0_2 _ _ l0_3 t120 t121 t122 _ ?side1 ?side2 A2.out).mono ?_); (case side1 => repeat (first | exact (Kd.C_below HR0_3.out HB.out) | (with_reducible refine Kd.C_alloc ?_ _) | (with_reducible refine Kd.C_drewN ?_ _) | (with_reducible refine Kd.C_drew ?_))); (case side2 => exact HC0_3.out); rintro e w22 ⟨rfl, hb⟩; refine ⟨_, rfl, ?_⟩; have n0_ := Aside0.mk (blk_below (g := gb119) (o := .cells #[.int .i64 a0_0, .int .i64 a0_1, .int .u64 a0_2, .slice A0_3 l0_3.length c0_3] 25 (0, 0)) (by (with_reducible repeat (first | refine blk_drewN ?_ _ | refine blk_drew ?_ | refine blk_alloc ?_ _)); exact BK119.out) hb); have n1_ := Aside0.mk (below_step (by repeat (first | (with_reducible first | exact HB.out | apply below_alloc | apply pw_below_drewN | apply below_drew1 | refine below_set ?_ GE119.out) | exact HB.out)) hb); clear BK119; clear HB; have BK119 := n0_; have HB := n1_; clear n0_ n1_; (try clear hb); (try clear hb2); (try clear hk); (try clear hi); have hcz23_0 : w22.cell? ⟨gb119, 0, none⟩ = some (.int .i64 a0_0) := (blk_cell BK119.out 0).trans rfl; have hcz23_1 : w22.cell? ⟨gb119, 1, none⟩ = some (.int .i64 a0_1) := (blk_cell BK119.out 1).trans rfl; have hcz23_2 : w22.cell? ⟨gb119, 2, none⟩ = some (.int .u64 a0_2) := (blk_cell BK119.out 2).trans rfl; have hcz23_3 : w22.cell? ⟨gb119, 3, none⟩ = some (.slice A0_3 l0_3.length c0_3) := (blk_cell BK119.out 3).trans rfl; have hfz23_0 := blk_frozen BK119.out 0; have hfz23_1 := blk_frozen BK119.out 1; have hfz23_2 := blk_frozen BK119.out 2; have hfz23_3 := blk_frozen BK119.out 3))
    have n0_ := Aside0.mk (blk_drew BK119.out)
    have n1_ := Aside0.mk (below_drew1 HB.out)
    clear BK119
    clear HB
    have BK119 := n0_
    have HB := n1_
    clear n0_ n1_
    refine start_ (n := 10) (S := fun w' => w'.cell? ⟨gb119, 0, none⟩ = some (.int .i64 a0_0) ∧ w'.cell? ⟨gb119, 1, none⟩ = some (.int .i64 a0_1) ∧ w'.cell? ⟨gb119, 2, none⟩ = some (.int .u64 a0_2) ∧ w'.cell? ⟨gb119, 3, none⟩ = some (.slice A0_3 l0_3.length c0_3)) (ds := []) #[false, false, false, false, false, false, false, false, false, false] (by kernel_rfl) rfl rfl ⟨(blk_cell BK119.out 0).trans rfl, (blk_cell BK119.out 1).trans rfl, (blk_cell BK119.out 2).trans rfl, (blk_cell BK119.out 3).trans rfl⟩ (fun hHeld => ?_); refine with_tabW epicyclelaw06_made.tab5 epicyclelaw06_made.bits5 (fun HT_ HW_ => ?_)
    generalize w22.drew = w24 at BK119 HB hHeld ⊢
    refine pure_ (i := 0) (N := some 22) (v := ?_) (a' := ?_) #[true, false, false, false, false, false, false, false, false, false] rfl rfl (any_of HT_.out (by kernel_rfl)) (fun _ _ _ h => h) (Or.inl ⟨by rfl, ?_⟩) ?_ ?_
    rotate_left
    ·intro w'
     go_simp
     with_reducible rfl
    rotate_left
    ·simp only [Act.put, List.setIfInBounds_toArray, List.set_cons_zero, List.set_cons_succ, i64_w, i32_w]
     rfl
    refine pure_ (i := 3) (N := some 25) (v := ?_) (a' := ?_) #[true, false, false, true, false, false, false, false, false, false] rfl rfl (any_of HT_.out (by kernel_rfl)) (fun _ _ _ h => h) (Or.inl ⟨by rfl, ?_⟩) ?_ ?_
    rotate_left
    ·intro w'
     go_simp
     with_reducible rfl
    rotate_left
    ·simp only [Act.put, List.setIfInBounds_toArray, List.set_cons_zero, List.set_cons_succ, i64_w, i32_w]
     rfl
    refine take_ (i := 1) (N := some 23) (v := ?_) (a' := ?_) #[true, true, false, true, false, false, false, false, false, false] rfl rfl (take_ofW HT_.out HW_.out (by kernel_rfl)) (fun _ _ _ h => h) (Or.inl ⟨by rfl, ?_⟩) hHeld ?_ ?_
    rotate_left
    ·rintro w' ⟨s0, s1, s2, s3⟩
     go_simp
     with_reducible rfl
    rotate_left
    ·simp only [Act.put, List.setIfInBounds_toArray, List.set_cons_zero, List.set_cons_succ, i64_w, i32_w]
     rfl
    refine take_ (i := 4) (N := some 26) (v := ?_) (a' := ?_) #[true, true, false, true, true, false, false, false, false, false] rfl rfl (take_ofW HT_.out HW_.out (by kernel_rfl)) (fun _ _ _ h => h) (Or.inl ⟨by rfl, ?_⟩) hHeld ?_ ?_
    rotate_left
    ·rintro w' ⟨s0, s1, s2, s3⟩
     go_simp
     with_reducible rfl
    rotate_left
    ·simp only [Act.put, List.setIfInBounds_toArray, List.set_cons_zero, List.set_cons_succ, i64_w, i32_w]
     rfl
    refine one_ (i := 2) (N := some 24) #[true, true, true, true, true, false, false, false, false, false] rfl rfl (one_of HT_.out (by kernel_rfl)) (by decide) (fun K hK => ?_)
    refine goes_ Tryz.func34 (by kernel_rfl) rfl #[.slice A0_3 l0_3.length c0_3] (by rfl) rfl rfl (by (try simp only [List.map_toArray, List.map_cons, List.map_nil]); first | done | rfl | (simp only [List.length_drop, List.length_take]; rfl)) ?_
    with_reducible refine (epicyclelaw06_rows.calls k _ _ l0_3 t131 _ ?side1 ?side2 A18.out).mono ?_
    (case side1 => repeat (first | exact (Kd.C_below HR0_3.out HB.out) | (with_reducible refine Kd.C_alloc ?_ _) | (with_reducible refine Kd.C_drewN ?_ _) | (with_reducible refine Kd.C_drew ?_)))
    (case side2 => exact HC0_3.out)
    rintro e w25 ⟨v132, rfl, ho0, hb⟩
    refine ⟨_, rfl, ?_⟩
    have n0_ := Aside0.mk (Kd.S_lower ho0 (below_size (by repeat (first | (with_reducible first | exact HB.out | apply below_alloc | apply pw_below_drewN | apply below_drew1 | refine below_set ?_ GE119.out) | exact HB.out))))
    have n1_ := Aside0.mk (blk_below (g := gb119) (o := .cells #[.int .i64 a0_0, .int .i64 a0_1, .int .u64 a0_2, .slice A0_3 l0_3.length c0_3] 25 (0, 0)) (by (with_reducible repeat (first | refine blk_drewN ?_ _ | refine blk_drew ?_ | refine blk_alloc ?_ _)); exact BK119.out) hb)
    have n2_ := Aside0.mk (below_step (by repeat (first | (with_reducible first | exact HB.out | apply below_alloc | apply pw_below_drewN | apply below_drew1 | refine below_set ?_ GE119.out) | exact HB.out)) hb)
    clear BK119
    clear HB
    have HO133 := n0_
    have BK119 := n1_
    have HB := n2_
    clear n0_ n1_ n2_
    (try clear hb)
    (try clear hb2)
    (try clear hk)
    (try clear hi)
    (try clear ho0)
    obtain ⟨Ao26, co26, eo26⟩ := Kd.S_slice HO133.out
    (first | subst eo26 | (injection eo26 with f1_ f2_ f3_; have f4_ := f1_.symm; have f5_ := f3_.symm; clear f1_ f2_ f3_; subst f4_; subst f5_))
    refine hK.out _ _ ⟨(blk_cell BK119.out 0).trans rfl, (blk_cell BK119.out 1).trans rfl, (blk_cell BK119.out 2).trans rfl, (blk_cell BK119.out 3).trans rfl⟩ (fun hHeld => ?_)
    clear hK K
    refine norm_ (a' := ?_) ?_ ?_
    rotate_left
    ·show Act.put _ (some 24) _ = _
     simp only [Act.put, List.setIfInBounds_toArray, List.set_cons_zero, List.set_cons_succ, i64_w, i32_w]
     rfl
    refine one_ (i := 5) (N := some 27) #[true, true, true, true, true, true, false, false, false, false] rfl rfl (one_of HT_.out (by kernel_rfl)) (by decide) (fun K hK => ?_)
    refine goes_ Tryz.func33 (by kernel_rfl) rfl #[.slice Ao26 t131.length co26, .int .u64 a0_2] (by rfl) rfl rfl (by (try simp only [List.map_toArray, List.map_cons, List.map_nil]); first | done | rfl | (simp only [List.length_drop, List.length_take]; rfl)) ?_
    with_reducible refine (field_New.calls k _ _ t131 a0_2 t134 t135 _ ?side1 ?side2 A19.out).mono ?_
    (case side1 => repeat (first | exact (Kd.S_reads' HO133.out).2.2 | (with_reducible refine Kd.C_alloc ?_ _) | (with_reducible refine Kd.C_drewN ?_ _) | (with_reducible refine Kd.C_drew ?_)))
    (case side2 => exact (Kd.S_reads' HO133.out).2.1)
    rintro e w27 ⟨v136, rfl, ho0, hb⟩
    refine ⟨_, rfl, ?_⟩
    have n0_ := Aside0.mk (Kd.S_below (by (with_reducible repeat (first | apply Kd.S_alloc | apply Kd.S_drewN | apply Kd.S_drew)); exact HO133.out) hb)
    have n1_ := Aside0.mk (Kd.R_lower ho0 (below_size (by repeat (first | (with_reducible first | exact HB.out | apply below_alloc | apply pw_below_drewN | apply below_drew1 | refine below_set ?_ GE119.out) | exact HB.out))))
    have n2_ := Aside0.mk (blk_below (g := gb119) (o := .cells #[.int .i64 a0_0, .int .i64 a0_1, .int .u64 a0_2, .slice A0_3 l0_3.length c0_3] 25 (0, 0)) (by (with_reducible repeat (first | refine blk_drewN ?_ _ | refine blk_drew ?_ | refine blk_alloc ?_ _)); exact BK119.out) hb)
    have n3_ := Aside0.mk (below_step (by repeat (first | (with_reducible first | exact HB.out | apply below_alloc | apply pw_below_drewN | apply below_drew1 | refine below_set ?_ GE119.out) | exact HB.out)) hb)
    clear HO133
    clear BK119
    clear HB
    have HO133 := n0_
    have HO137 := n1_
    have BK119 := n2_
    have HB := n3_
    clear n0_ n1_ n2_ n3_
    (try clear hb)
    (try clear hb2)
    (try clear hk)
    (try clear hi)
    (try clear ho0)
    refine hK.out _ _ ⟨(blk_cell BK119.out 0).trans rfl, (blk_cell BK119.out 1).trans rfl, (blk_cell BK119.out 2).trans rfl, (blk_cell BK119.out 3).trans rfl⟩ (fun hHeld => ?_)
    clear hK K
    refine norm_ (a' := ?_) ?_ ?_
    rotate_left
    ·show Act.put _ (some 27) _ = _
     simp only [Act.put, List.setIfInBounds_toArray, List.set_cons_zero, List.set_cons_succ, i64_w, i32_w]
     rfl
    refine pure_ (i := 6) (N := some 21) (v := ?_) (a' := ?_) #[true, true, true, true, true, true, true, false, false, false] rfl rfl (any_of HT_.out (by kernel_rfl)) (fun _ _ _ h => h) (Or.inl ⟨by rfl, ?_⟩) ?_ ?_
    rotate_left
    ·intro w'
     go_simp
     with_reducible rfl
    rotate_left
    ·simp only [Act.put, List.setIfInBounds_toArray, List.set_cons_zero, List.set_cons_succ, i64_w, i32_w]
     rfl
    refine pure_ (i := 7) (N := some 28) (v := ?_) (a' := ?_) #[true, true, true, true, true, true, true, true, false, false] rfl rfl (any_of HT_.out (by kernel_rfl)) (fun _ _ _ h => h) (Or.inl ⟨by rfl, ?_⟩) ?_ ?_
    rotate_left
    ·intro w'
     go_simp
     with_reducible rfl
    rotate_left
    ·simp only [Act.put, List.setIfInBounds_toArray, List.set_cons_zero, List.set_cons_succ, i64_w, i32_w]
     rfl
    refine pure_ (i := 8) (N := some 29) (v := ?_) (a' := ?_) #[true, true, true, true, true, true, true, true, true, false] rfl rfl (any_of HT_.out (by kernel_rfl)) (fun _ _ _ h => h) (Or.inl ⟨by rfl, ?_⟩) ?_ ?_
    rotate_left
    ·intro w'
     go_simp
     with_reducible rfl
    rotate_left
    ·simp only [Act.put, List.setIfInBounds_toArray, List.set_cons_zero, List.set_cons_succ, i64_w, i32_w]
     rfl
    refine pure_ (i := 9) (N := some 8) (v := ?_) (a' := ?_) #[true, true, true, true, true, true, true, true, true, true] rfl rfl (any_of HT_.out (by kernel_rfl)) (fun _ _ _ h => h) (Or.inl ⟨by rfl, ?_⟩) ?_ ?_
    rotate_left
    ·intro w'
     go_simp
     with_reducible rfl
    rotate_left
    ·simp only [Act.put, List.setIfInBounds_toArray, List.set_cons_zero, List.set_cons_succ, i64_w, i32_w]
     rfl
    refine done_ (done_of HT_.out (by kernel_rfl)) ?_
    try go_wp2
    go_ret3
    exact ⟨_, by first | rfl | (simp [errW_none, errW_some] <;> rfl) | (simp [*, errW_none, errW_some] <;> rfl), by (with_reducible repeat (first | apply Kd.R_alloc | apply Kd.R_drewN | apply Kd.R_drew)); exact HO137.out, by repeat (first | (with_reducible first | exact HB.out | apply below_alloc | apply pw_below_drewN | apply below_drew1 | refine below_set ?_ GE119.out) | exact HB.out)⟩
   ·rw [if_neg c17] at H
    have c17b0 : decide ((l0_3.length : Int) ≤ 40) = false := decide_eq_false c17
    have c17b1 : decide (l0_3.length ≤ 40) = false := decide_eq_false (by omega)
    clear c17
    simp only [Option.some.injEq, Prod.mk.injEq] at H
    obtain ⟨rfl, rfl, rfl⟩ := H
    go_enter Tryz.func6, Tryz.ntmps6
    go_wp2_with (first | ((with_reducible refine gate_dst (N := 1) rfl ?_); refine box_event ?hg (N := 1) ?hd (cs := #[.int .i64 a0_0, .int .i64 a0_1, .int .u64 a0_2, .slice A0_3 l0_3.length c0_3]) (t := 25) ?hr ?_; (case hd => rfl); (case hg => rfl); (case hr => first | (go_simp; done) | (go_simp; rfl)); intro gb119 hg w28 hbox hb; have n0_ := Aside0.mk (below_step (by repeat (first | (with_reducible first | exact HB.out | apply below_alloc | apply pw_below_drewN | apply below_drew1) | exact HB.out)) hb); have n1_ := Aside0.mk (hbox); have n2_ := Aside0.mk ((by rw [hg]; exact (below_size (by repeat (first | (with_reducible first | exact HB.out | apply below_alloc | apply pw_below_drewN | apply below_drew1) | exact HB.out))) : w.heap.size ≤ gb119)); have n3_ := Aside0.mk ((by rw [hg]; exact (below_size (by repeat (first | (with_reducible first | exact HB.out | apply below_alloc | apply pw_below_drewN | apply below_drew1) | exact HB.out))) : w.heap.size ≤ gb119)); clear HB; have HB := n0_; have BK119 := n1_; have GW119 := n2_; have GE119 := n3_; clear n0_ n1_ n2_ n3_; clear hb hbox hg; have hcz29_0 : w28.cell? ⟨gb119, 0, none⟩ = some (.int .i64 a0_0) := (blk_cell BK119.out 0).trans rfl; have hcz29_1 : w28.cell? ⟨gb119, 1, none⟩ = some (.int .i64 a0_1) := (blk_cell BK119.out 1).trans rfl; have hcz29_2 : w28.cell? ⟨gb119, 2, none⟩ = some (.int .u64 a0_2) := (blk_cell BK119.out 2).trans rfl; have hcz29_3 : w28.cell? ⟨gb119, 3, none⟩ = some (.slice A0_3 l0_3.length c0_3) := (blk_cell BK119.out 3).trans rfl; have hfz29_0 := blk_frozen BK119.out 0; have hfz29_1 := blk_frozen BK119.out 1; have hfz29_2 := blk_frozen BK119.out 2; have hfz29_3 := blk_frozen BK119.out 3) | ((with_reducible refine gate_callee (f := 31) rfl ?_); refine goesL_ (some 11) rfl rfl Tryz.func31 (by kernel_rfl) rfl #[.agg #[.int .i64 a0_0, .int .i64 a0_1, .int .u64 a0_2, .slice A0_3 l0_3.length c0_3]] rfl (by (try simp only [List.map_toArray, List.map_cons, List.map_nil]); first | done | rfl | (simp only [List.length_drop, List.length_take]; rfl)) ?_; (with_reducible refine (epicycleref06_Of.calls k a0_0 a0_1 a0_2 _ _ l0_3 t120 t121 t122 _ ?side1 ?side2 A2.out).mono ?_); (case side1 => repeat (first | exact (Kd.C_below HR0_3.out HB.out) | (with_reducible refine Kd.C_alloc ?_ _) | (with_reducible refine Kd.C_drewN ?_ _) | (with_reducible refine Kd.C_drew ?_))); (case side2 => exact HC0_3.out); rintro e w30 ⟨rfl, hb⟩; refine ⟨_, rfl, ?_⟩; have n0_ := Aside0.mk (blk_below (g := gb119) (o := .cells #[.int .i64 a0_0, .int .i64 a0_1, .int .u64 a0_2, .slice A0_3 l0_3.length c0_3] 25 (0, 0)) (by (with_reducible repeat (first | refine blk_drewN ?_ _ | refine blk_drew ?_ | refine blk_alloc ?_ _)); exact BK119.out) hb); have n1_ := Aside0.mk (below_step (by repeat (first | (with_reducible first | exact HB.out | apply below_alloc | apply pw_below_drewN | apply below_drew1 | refine below_set ?_ GE119.out) | exact HB.out)) hb); clear BK119; clear HB; have BK119 := n0_; have HB := n1_; clear n0_ n1_; (try clear hb); (try clear hb2); (try clear hk); (try clear hi); have hcz31_0 : w30.cell? ⟨gb119, 0, none⟩ = some (.int .i64 a0_0) := (blk_cell BK119.out 0).trans rfl; have hcz31_1 : w30.cell? ⟨gb119, 1, none⟩ = some (.int .i64 a0_1) := (blk_cell BK119.out 1).trans rfl; have hcz31_2 : w30.cell? ⟨gb119, 2, none⟩ = some (.int .u64 a0_2) := (blk_cell BK119.out 2).trans rfl; have hcz31_3 : w30.cell? ⟨gb119, 3, none⟩ = some (.slice A0_3 l0_3.length c0_3) := (blk_cell BK119.out 3).trans rfl; have hfz31_0 := blk_frozen BK119.out 0; have hfz31_1 := blk_frozen BK119.out 1; have hfz31_2 := blk_frozen BK119.out 2; have hfz31_3 := blk_frozen BK119.out 3))
    go_ret3
    exact ⟨(.slice none 0 0), by first | rfl | (simp [errW_none, errW_some] <;> rfl) | (simp [*, errW_none, errW_some] <;> rfl), by first | exact Kd.R_nil _ _ _ _ _ | exact Kd.N_nil _ _ _ _ _ | exact Kd.V_nil _ _ _ _ _ | exact Kd.Q_nil _ _ _ _ _ | exact Kd.S_nil _ _ _ _ _, by repeat (first | (with_reducible first | exact HB.out | apply below_alloc | apply pw_below_drewN | apply below_drew1 | refine below_set ?_ GE119.out) | exact HB.out)⟩
noncomputable def epicycleref06_Inv.f (k : Nat) (a0 : Int) (a1 : Int) : Option (Int) := (epicycleref02_Pow.f k a0 (IntKind.u64.wrap (a1 - 2)) a1).bind fun t138 => (some t138)
set_option maxHeartbeats 8000000 in
set_option maxRecDepth 100000 in
theorem epicycleref06_Inv.calls (k : Nat) (a0 : Int) (a1 : Int) (r : Int) (w : World) (h : epicycleref06_Inv.f k a0 a1 = some r) :
  Calls Tryz.prog 7 #[.int .u64 a0, .int .u64 a1] w fun e w' => e = .returned (.int .u64 r) ∧ Drawn0 w w' := by
 have H : ((epicycleref02_Pow.f k a0 (IntKind.u64.wrap (a1 - 2)) a1).bind fun t138 => (some t138)) = some r := h
 clear h
 replace H := Option.bind_eq_some_iff.mp H
 obtain ⟨t138, A30, H⟩ := H
 replace H : (some t138) = some r := H
 have A3 := Aside0.mk A30
 clear A30
 obtain rfl := Option.some.inj H
 go_enter Tryz.func7, Tryz.ntmps7
 go_wp2_with (first | ((with_reducible refine gate_callee (f := 16) rfl ?_); refine goesL_ (some 9) rfl rfl Tryz.func16 (by kernel_rfl) rfl #[.int .u64 a0, .int .u64 (IntKind.u64.wrap (a1 - 2)), .int .u64 a1] rfl (by (try simp only [List.map_toArray, List.map_cons, List.map_nil]); first | done | rfl | (simp only [List.length_drop, List.length_take]; rfl)) ?_; (with_reducible refine (epicycleref02_Pow.calls k a0 (IntKind.u64.wrap (a1 - 2)) a1 t138 _ A3.out).mono ?_); rintro e w' ⟨rfl, ⟨nd, rfl⟩⟩; refine ⟨_, rfl, ?_⟩))
 go_ret
 exact ⟨by first | rfl | (simp; done) | (simp [*]; done), by repeat (first | exact Drawn0.refl _ | apply Drawn0.step)⟩
end Go.Proofs.YthnpjjpdlihepaaGreat.XD
end
section
namespace Go.Proofs.YthnpjjpdlihepaaGreat.F06.XD
open Go Go.RowKit Go.Proofs.YthnpjjpdlihepaaGreat.XS Go.Proofs.YthnpjjpdlihepaaGreat.XT Go.Proofs.YthnpjjpdlihepaaGreat.XR Go.Proofs.YthnpjjpdlihepaaGreatW.PrintWords Go.Proofs.YthnpjjpdlihepaaGreatW.PrintLast Go.Proofs.YthnpjjpdlihepaaGreatW.PrintMore Go.Proofs.YthnpjjpdlihepaaGreat.Given Go.Proofs.YthnpjjpdlihepaaGreat.Given04 Go.Proofs.YthnpjjpdlihepaaGreat.M Go.Proofs.YthnpjjpdlihepaaGreat.Mont Go.Proofs.YthnpjjpdlihepaaGreat.XD
theorem rows_l1 {x3 : List S57} {L : List S71} {len i P G : Int} {F : List S83} {R : List S57} (hF : F.length < 8796093022208) (h3 : x3.length < 3518437208883)
    (E : Ev (fun k => epicyclelaw06_rows.l0 k (x3 ++ [⟨P, G, F.map cF⟩]) L len (wrap64 (i + 1))) R) (l : List S83) :
    ∀ j : Nat, F.drop j = l → j ≤ F.length → Ev (fun k => epicyclelaw06_rows.l1 k x3 ((F.take j).map cF) L len i F (F.length : Int) j P G F) R := by
  induction l with
  | nil =>
    intro j hd hj
    have : F.length ≤ j := by have := congrArg List.length hd; simp at this; omega
    have q : ¬ (j : Int) < (F.length : Int) := by omega
    rw [List.take_of_length_le this]
    refine Ev.step (fun k => ?_) E
    simp only [epicyclelaw06_rows.l1]
    rw [if_neg q, if_pos h3]
  | cons x l ih =>
    intro j hd hj
    obtain ⟨hx, hlt, hd'⟩ := rd60_drop hd
    have q : (j : Int) < (F.length : Int) := by omega
    have q0 : 0 ≤ (j : Int) := by omega
    have w : wrap64 ((j : Int) + 1) = ((j + 1 : Nat) : Int) := by rw [w64_id _ (by omega) (by omega)]; omega
    have ql : ((F.take j).map cF).length < 8796093022208 := by simp; omega
    have IH := ih (j + 1) hd' (by omega)
    have e : (F.take (j + 1)).map cF = (F.take j).map cF ++ [⟨x.f0, x.f1⟩] := by
      have hg : F[j] = x := by
        rw [List.drop_eq_getElem_cons hlt] at hd
        injection hd
      rw [List.take_succ_eq_append_getElem hlt, hg, List.map_append]
      rfl
    rw [e] at IH
    refine Ev.step (fun k => ?_) IH
    simp only [epicyclelaw06_rows.l1]
    rw [if_pos q, if_pos q0, if_pos q, if_pos ql, hx, w]
theorem rows_l0 {L : List S71} (hL : okLen L) (l : List S71) : ∀ i : Nat, L.drop i = l → i ≤ L.length → Ev (fun k => epicyclelaw06_rows.l0 k ((L.take i).map cE) L (L.length : Int) i) (L.map cE) := by
  have h1 := hL.1
  induction l with
  | nil =>
    intro i hd hi
    have : L.length ≤ i := by have := congrArg List.length hd; simp at this; omega
    have q : ¬ (i : Int) < (L.length : Int) := by omega
    rw [List.take_of_length_le this]
    refine Ev.step (fun k => ?_) (Ev.now _)
    simp only [epicyclelaw06_rows.l0]
    rw [if_neg q]
  | cons x l ih =>
    intro i hd hi
    obtain ⟨hx, hlt, hd'⟩ := rd46_drop hd
    have hxm : x ∈ L := List.mem_of_mem_drop (show x ∈ L.drop i by rw [hd]; exact List.mem_cons_self)
    have q : (i : Int) < (L.length : Int) := by omega
    have q0 : 0 ≤ (i : Int) := by omega
    have w : wrap64 ((i : Int) + 1) = ((i + 1 : Nat) : Int) := by rw [w64_id _ (by omega) (by omega)]; omega
    have ql : ((L.take i).map cE).length < 3518437208883 := by simp; omega
    have IH := ih (i + 1) hd' (by omega)
    have e : (L.take (i + 1)).map cE = (L.take i).map cE ++ [⟨x.f0, x.f1, x.f2.map cF⟩] := by
      have hg : L[i] = x := by
        rw [List.drop_eq_getElem_cons hlt] at hd
        injection hd
      rw [List.take_succ_eq_append_getElem hlt, hg, List.map_append]
      rfl
    rw [e, ← w] at IH
    have L1 := rows_l1 (L := L) (len := (L.length : Int)) (i := (i : Int)) (hL.2 x hxm) ql IH x.f2 0 rfl (Nat.zero_le _)
    refine Ev.step (fun k => ?_) L1
    simp only [epicyclelaw06_rows.l0]
    rw [if_pos q, if_pos q0, if_pos q, hx]
    rfl
theorem rows_ev {L : List S71} (hL : okLen L) : Ev (fun k => epicyclelaw06_rows.f k L) (L.map cE) := by
  refine Ev.congr (fun k => ?_) (rows_l0 hL L 0 rfl (Nat.zero_le _))
  unfold epicyclelaw06_rows.f
  rfl
end Go.Proofs.YthnpjjpdlihepaaGreat.F06.XD
end
section
namespace Go.Proofs.YthnpjjpdlihepaaGreat.F06.XD
open Go Go.RowKit Go.Proofs.YthnpjjpdlihepaaGreatW.PrintWords Go.Proofs.YthnpjjpdlihepaaGreatW.PrintLast Go.Proofs.YthnpjjpdlihepaaGreatW.PrintMore Go.Proofs.YthnpjjpdlihepaaGreat.Given Go.Proofs.YthnpjjpdlihepaaGreat.M Go.Proofs.YthnpjjpdlihepaaGreat.Mont Go.Proofs.YthnpjjpdlihepaaGreat.XS Go.Proofs.YthnpjjpdlihepaaGreat.XT Go.Proofs.YthnpjjpdlihepaaGreat.XR Go.Proofs.YthnpjjpdlihepaaGreat.Num Go.Proofs.YthnpjjpdlihepaaGreat.XK Go.Proofs.YthnpjjpdlihepaaGreat.XD
theorem made_ev {L : List RE} (hL : okRow L) (kind K p : Int) : Ev (fun k => epicyclelaw06_made.f k kind K p L) ([], 0, 0) ∨ ∃ F, Ev (fun k => epicyclelaw06_made.f k kind K p L) ([F], F.p, F.g) ∧ GoodFld F := by
  by_cases h0 : kind = 0
  · subst h0
    by_cases hp : OddP p
    · obtain ⟨F, E, G, e, hg⟩ := small_odd hp
      refine .inr ⟨F, ?_, hg⟩
      rw [e]
      exact Ev.congr (fun k => rfl) (Ev.bind ((of_small (L := L) (K := K)).1 hp _ G) (evP rfl (Ev.bind E (Ev.now _))))
    · exact .inl (Ev.congr (fun k => rfl) (Ev.bind ((of_small (L := L) (K := K)).2 hp) (evP rfl (Ev.bind (small_not hp) (Ev.now _)))))
  by_cases h1 : kind = 1
  · subst h1
    by_cases hK : 0 ≤ K ∧ K ≤ 5
    · obtain ⟨F, E, e, hg⟩ := known_ev hK.1 hK.2
      refine .inr ⟨F, ?_, hg⟩
      have O := (of_known (L := L) (p := p)).1 hK
      rw [e] at O
      exact Ev.congr (fun k => rfl) (Ev.bind O (evN h0 (evP rfl (Ev.bind E (Ev.now _)))))
    · exact .inl (Ev.congr (fun k => rfl) (Ev.bind ((of_known (L := L) (p := p)).2 hK) (evN h0 (evP rfl (Ev.bind (known_not hK) (Ev.now _))))))
  have O := ofNew_ev hL (K := K) (p := p) h0 h1
  have R := rows_ev hL.1
  have E := new_ev (R := L.map cE) (by rw [map_tri]; exact hL.2) p
  rcases new_of hL p with ⟨e, _, hn, e', _, ho, _⟩ | ⟨F, hn, ho, hg, hl⟩
  · rw [hn] at E
    rw [ho] at O
    refine .inl (Ev.congr (fun k => rfl) (Ev.bind O (evN h0 (evN h1 ?_))))
    by_cases hl : (L.length : Int) ≤ 40
    · exact evP hl (Ev.bind R (Ev.bind E (Ev.now _)))
    · exact evN hl (Ev.now _)
  · rw [hn] at E
    rw [ho] at O
    exact .inr ⟨F, Ev.congr (fun k => rfl) (Ev.bind O (evN h0 (evN h1 (evP hl (Ev.bind R (Ev.bind E (Ev.now _))))))), hg⟩
end Go.Proofs.YthnpjjpdlihepaaGreat.F06.XD
end
section
namespace Go.Proofs.YthnpjjpdlihepaaGreat.XD
open Go.RowKit Go.Proofs.YthnpjjpdlihepaaGreat.Given Go.Proofs.YthnpjjpdlihepaaGreat.Row05 Go.Proofs.YthnpjjpdlihepaaGreat.XS Go.Proofs.YthnpjjpdlihepaaGreat.XT Go.Proofs.YthnpjjpdlihepaaGreat.XR Go.Proofs.YthnpjjpdlihepaaGreat.F06 Go.Proofs.YthnpjjpdlihepaaGreat.XK Go.Proofs.YthnpjjpdlihepaaGreatW.PrintWords Go.Proofs.YthnpjjpdlihepaaGreatW.PrintLast Go.Proofs.YthnpjjpdlihepaaGreatW.PrintMore
attribute [local go_sem] max2_int min2_int max_two min_two max_three min_three max_four min_four   -- for this text's walks alone
set_option linter.unusedVariables false
set_option linter.unusedSimpArgs false
noncomputable def epicyclelaw06_FieldDoes.j0 : Nat → Int → Int → Int → List (Fld) → Int → Int → Option (Bool)
 | 0, _, _, _, _, _, _ => none
 | k + 1, x1, x2, x3, x9, x10, x12 => (field_Field_Add.f x9 x1 x2).bind fun t147 => ((epicycleref02_Add.f x1 x2 x10).bind fun t148 => (if t147 = t148 then ((field_Field_Sub.f x9 x1 x2).bind fun t149 => ((epicycleref02_Neg.f x2 x10).bind fun t150 => ((epicycleref02_Add.f x1 t150 x10).bind fun t151 => (if t149 = t151 then ((field_Field_Neg.f x9 x1).bind fun t152 => ((epicycleref02_Neg.f x1 x10).bind fun t153 => (if t152 = t153 then ((field_Field_Mul.f x9 x1 x2).bind fun t154 => ((epicycleref02_Mul.f k x1 x2 x10).bind fun t155 => (if t154 = t155 then ((field_Field_Pow.f x9 x1 x3).bind fun t156 => ((epicycleref02_Pow.f k x1 x3 x10).bind fun t157 => (if t156 = t157 then ((field_Field_Inv.f x9 x1).bind fun t158 => (if t158 = x12 then ((field_Field_Lift.f x9 x1).bind fun t159 => ((epicycleref03_Up.f k x1 x10).bind fun t160 => (if t159 = t160 then ((field_Field_Lift.f x9 x1).bind fun t161 => ((field_Field_Times.f x9 t161 x2).bind fun t162 => ((epicycleref02_Mul.f k x1 x2 x10).bind fun t163 => (some (t162 == t163))))) else (some false)))) else (some false))) else (some false)))) else (some false)))) else (some false)))) else (some false))))) else (some false)))
noncomputable def epicyclelaw06_FieldDoes.f (k : Nat) (a0_0 : Int) (a0_1 : Int) (a0_2 : Int) (l0_3 : List (S71)) (a1 : Int) (a2 : Int) (a3 : Int) : Option (Bool) := (epicyclelaw06_alive.f k).bind fun t140 => (if t140 = true then ((epicyclelaw06_made.f k a0_0 a0_1 a0_2 l0_3).bind fun bt141 => (if bt141.2.1 = 0 then (if (bt141.1.length : Int) = 0 then (some true) else (some false)) else (if (Int.tmod a1 bt141.2.1) = 0 then (epicyclelaw06_FieldDoes.j0 k a1 a2 a3 bt141.1 bt141.2.1 0) else ((epicycleref06_Inv.f k a1 bt141.2.1).bind fun t146 => (epicyclelaw06_FieldDoes.j0 k a1 a2 a3 bt141.1 bt141.2.1 t146))))) else (some false))
set_option maxHeartbeats 8000000 in
set_option maxRecDepth 100000 in
theorem epicyclelaw06_FieldDoes.calls (k : Nat) (a0_0 : Int) (a0_1 : Int) (a0_2 : Int) (A0_3 : Option Addr) (c0_3 : Nat) (l0_3 : List (S71)) (a1 : Int) (a2 : Int) (a3 : Int) (w : World) (hr0_3 : Kd.C k71 w A0_3 l0_3.length l0_3) (hc0_3 : l0_3.length ≤ c0_3) (h : epicyclelaw06_FieldDoes.f k a0_0 a0_1 a0_2 l0_3 a1 a2 a3 = some true) :
  Calls Tryz.prog 3 #[.agg #[.int .i64 a0_0, .int .i64 a0_1, .int .u64 a0_2, .slice A0_3 l0_3.length c0_3], .int .u64 a1, .int .u64 a2, .int .u64 a3] w fun e w' => e = .returned (.bool true) ∧ Below w.heap.size w w' := by
 have hu25 := Tryz.underlying25
 have HR0_3 := Aside0.mk hr0_3
 have HC0_3 := Aside0.mk hc0_3
 clear hr0_3 hc0_3
 have HB := Aside0.mk (Below.refl w.heap.size w)
 have H : ((epicyclelaw06_alive.f k).bind fun t140 => (if t140 = true then ((epicyclelaw06_made.f k a0_0 a0_1 a0_2 l0_3).bind fun bt141 => (if bt141.2.1 = 0 then (if (bt141.1.length : Int) = 0 then (some true) else (some false)) else (if (Int.tmod a1 bt141.2.1) = 0 then (epicyclelaw06_FieldDoes.j0 k a1 a2 a3 bt141.1 bt141.2.1 0) else ((epicycleref06_Inv.f k a1 bt141.2.1).bind fun t146 => (epicyclelaw06_FieldDoes.j0 k a1 a2 a3 bt141.1 bt141.2.1 t146))))) else (some false))) = some true := h
 clear h
 replace H := Option.bind_eq_some_iff.mp H
 obtain ⟨t140, A50, H⟩ := H
 replace H : (if t140 = true then ((epicyclelaw06_made.f k a0_0 a0_1 a0_2 l0_3).bind fun bt141 => (if bt141.2.1 = 0 then (if (bt141.1.length : Int) = 0 then (some true) else (some false)) else (if (Int.tmod a1 bt141.2.1) = 0 then (epicyclelaw06_FieldDoes.j0 k a1 a2 a3 bt141.1 bt141.2.1 0) else ((epicycleref06_Inv.f k a1 bt141.2.1).bind fun t146 => (epicyclelaw06_FieldDoes.j0 k a1 a2 a3 bt141.1 bt141.2.1 t146))))) else (some false)) = some true := H
 have A5 := Aside0.mk A50
 clear A50
 by_cases c6 : t140 = true
 ·subst c6
  have H1 : ((epicyclelaw06_made.f k a0_0 a0_1 a0_2 l0_3).bind fun bt141 => (if bt141.2.1 = 0 then (if (bt141.1.length : Int) = 0 then (some true) else (some false)) else (if (Int.tmod a1 bt141.2.1) = 0 then (epicyclelaw06_FieldDoes.j0 k a1 a2 a3 bt141.1 bt141.2.1 0) else ((epicycleref06_Inv.f k a1 bt141.2.1).bind fun t146 => (epicyclelaw06_FieldDoes.j0 k a1 a2 a3 bt141.1 bt141.2.1 t146))))) = some true := by rw [if_pos rfl] at H <;> exact H
  clear H
  have H := H1
  clear H1
  replace H := Option.bind_eq_some_iff.mp H
  obtain ⟨⟨t141, t144, t145⟩, A70, H⟩ := H
  replace H : (if t144 = 0 then (if (t141.length : Int) = 0 then (some true) else (some false)) else (if (Int.tmod a1 t144) = 0 then (epicyclelaw06_FieldDoes.j0 k a1 a2 a3 t141 t144 0) else ((epicycleref06_Inv.f k a1 t144).bind fun t146 => (epicyclelaw06_FieldDoes.j0 k a1 a2 a3 t141 t144 t146)))) = some true := H
  have A7 := Aside0.mk A70
  clear A70
  by_cases c8 : t144 = 0
  ·rw [if_pos c8] at H
   have c8b0 : (t144 == 0) = true := beq_iff_eq.mpr c8
   have c8b1 : (t144 != 0) = false := bne_eq_false_iff_eq.mpr c8
   clear c8
   by_cases c9 : (t141.length : Int) = 0
   ·rw [if_pos c9] at H
    have c9b0 : ((t141.length : Int) == 0) = true := beq_iff_eq.mpr c9
    have c9b1 : ((t141.length : Int) != 0) = false := bne_eq_false_iff_eq.mpr c9
    have hTl_t141 := Aside0.mk (show t141.length = 0 by omega)
    clear c9
    clear H
    go_enter Tryz.func3, Tryz.ntmps3
    go_wp2_with (first | ((with_reducible refine gate_dst (N := 4) rfl ?_); refine box_event ?hg (N := 4) ?hd (cs := #[.int .i64 a0_0, .int .i64 a0_1, .int .u64 a0_2, .slice A0_3 l0_3.length c0_3]) (t := 25) ?hr ?_; (case hd => rfl); (case hg => rfl); (case hr => first | (go_simp; done) | (go_simp; rfl)); intro gb139 hg w10 hbox hb; have n0_ := Aside0.mk (below_step (by repeat (first | (with_reducible first | exact HB.out | apply below_alloc | apply pw_below_drewN | apply below_drew1) | exact HB.out)) hb); have n1_ := Aside0.mk (hbox); have n2_ := Aside0.mk ((by rw [hg]; exact (below_size (by repeat (first | (with_reducible first | exact HB.out | apply below_alloc | apply pw_below_drewN | apply below_drew1) | exact HB.out))) : w.heap.size ≤ gb139)); have n3_ := Aside0.mk ((by rw [hg]; exact (below_size (by repeat (first | (with_reducible first | exact HB.out | apply below_alloc | apply pw_below_drewN | apply below_drew1) | exact HB.out))) : w.heap.size ≤ gb139)); clear HB; have HB := n0_; have BK139 := n1_; have GW139 := n2_; have GE139 := n3_; clear n0_ n1_ n2_ n3_; clear hb hbox hg) | ((with_reducible refine gate_callee (f := 5) rfl ?_); refine goesL_ (some 13) rfl rfl Tryz.func5 (by kernel_rfl) rfl #[] rfl (by (try simp only [List.map_toArray, List.map_cons, List.map_nil]); first | done | rfl | (simp only [List.length_drop, List.length_take]; rfl)) ?_; (with_reducible refine (epicyclelaw06_alive.calls k  true _ A5.out).mono ?_); rintro e w11 ⟨rfl, hb⟩; refine ⟨_, rfl, ?_⟩; have n0_ := Aside0.mk (blk_below (g := gb139) (o := .cells #[.int .i64 a0_0, .int .i64 a0_1, .int .u64 a0_2, .slice A0_3 l0_3.length c0_3] 25 (0, 0)) (by (with_reducible repeat (first | refine blk_drewN ?_ _ | refine blk_drew ?_ | refine blk_alloc ?_ _)); exact BK139.out) hb); have n1_ := Aside0.mk (below_step (by repeat (first | (with_reducible first | exact HB.out | apply below_alloc | apply pw_below_drewN | apply below_drew1 | refine below_set ?_ GE139.out) | exact HB.out)) hb); clear BK139; clear HB; have BK139 := n0_; have HB := n1_; clear n0_ n1_; (try clear hb); (try clear hb2); (try clear hk); (try clear hi); have hcz12_0 : w11.cell? ⟨gb139, 0, none⟩ = some (.int .i64 a0_0) := (blk_cell BK139.out 0).trans rfl; have hcz12_1 : w11.cell? ⟨gb139, 1, none⟩ = some (.int .i64 a0_1) := (blk_cell BK139.out 1).trans rfl; have hcz12_2 : w11.cell? ⟨gb139, 2, none⟩ = some (.int .u64 a0_2) := (blk_cell BK139.out 2).trans rfl; have hcz12_3 : w11.cell? ⟨gb139, 3, none⟩ = some (.slice A0_3 l0_3.length c0_3) := (blk_cell BK139.out 3).trans rfl; have hfz12_0 := blk_frozen BK139.out 0; have hfz12_1 := blk_frozen BK139.out 1; have hfz12_2 := blk_frozen BK139.out 2; have hfz12_3 := blk_frozen BK139.out 3) | ((with_reducible refine gate_callee (f := 6) rfl ?_); refine goesL_ (some 17) rfl rfl Tryz.func6 (by kernel_rfl) rfl #[.agg #[.int .i64 a0_0, .int .i64 a0_1, .int .u64 a0_2, .slice A0_3 l0_3.length c0_3]] rfl (by (try simp only [List.map_toArray, List.map_cons, List.map_nil]); first | done | rfl | (simp only [List.length_drop, List.length_take]; rfl)) ?_; (with_reducible refine (epicyclelaw06_made.calls k a0_0 a0_1 a0_2 _ _ l0_3 t141 t144 t145 _ ?side1 ?side2 A7.out).mono ?_); (case side1 => repeat (first | exact (Kd.C_below HR0_3.out HB.out) | (with_reducible refine Kd.C_alloc ?_ _) | (with_reducible refine Kd.C_drewN ?_ _) | (with_reducible refine Kd.C_drew ?_))); (case side2 => exact HC0_3.out); rintro e w13 ⟨v142, rfl, ho0, hb⟩; refine ⟨_, rfl, ?_⟩; have n0_ := Aside0.mk (Kd.R_lower ho0 (below_size (by repeat (first | (with_reducible first | exact HB.out | apply below_alloc | apply pw_below_drewN | apply below_drew1 | refine below_set ?_ GE139.out) | exact HB.out)))); have n1_ := Aside0.mk (blk_below (g := gb139) (o := .cells #[.int .i64 a0_0, .int .i64 a0_1, .int .u64 a0_2, .slice A0_3 l0_3.length c0_3] 25 (0, 0)) (by (with_reducible repeat (first | refine blk_drewN ?_ _ | refine blk_drew ?_ | refine blk_alloc ?_ _)); exact BK139.out) hb); have n2_ := Aside0.mk (below_step (by repeat (first | (with_reducible first | exact HB.out | apply below_alloc | apply pw_below_drewN | apply below_drew1 | refine below_set ?_ GE139.out) | exact HB.out)) hb); clear BK139; clear HB; have HO143 := n0_; have BK139 := n1_; have HB := n2_; clear n0_ n1_ n2_; (try clear hb); (try clear hb2); (try clear hk); (try clear hi); (try clear ho0); have hT_HO143 := pf_none_own HO143.out hTl_t141.out))
    go_ret
    exact ⟨by first | rfl | (simp [errW_none, errW_some] <;> rfl) | (simp [*, errW_none, errW_some] <;> rfl), by repeat (first | (with_reducible first | exact HB.out | apply below_alloc | apply pw_below_drewN | apply below_drew1 | refine below_set ?_ GE139.out) | exact HB.out)⟩
   ·rw [if_neg c9] at H
    have c9b0 : ((t141.length : Int) == 0) = false := beq_eq_false_iff_ne.mpr c9
    have c9b1 : ((t141.length : Int) != 0) = true := bne_iff_ne.mpr c9
    have c9b2 : ¬ (t141 = []) := fun h_ => c9 (by rw [h_]; rfl)
    have hTl_t141 := Aside0.mk (show ¬ (t141.length = 0) by omega)
    exact absurd H (by simp)
  ·rw [if_neg c8] at H
   have c8b0 : (t144 == 0) = false := beq_eq_false_iff_ne.mpr c8
   have c8b1 : (t144 != 0) = true := bne_iff_ne.mpr c8
   have HC14 := Aside0.mk H
   clear H
   go_enter Tryz.func3, Tryz.ntmps3
   go_upto_if 28 with (first | ((with_reducible refine gate_dst (N := 4) rfl ?_); refine box_event ?hg (N := 4) ?hd (cs := #[.int .i64 a0_0, .int .i64 a0_1, .int .u64 a0_2, .slice A0_3 l0_3.length c0_3]) (t := 25) ?hr ?_; (case hd => rfl); (case hg => rfl); (case hr => first | (go_simp; done) | (go_simp; rfl)); intro gb139 hg w15 hbox hb; have n0_ := Aside0.mk (below_step (by repeat (first | (with_reducible first | exact HB.out | apply below_alloc | apply pw_below_drewN | apply below_drew1) | exact HB.out)) hb); have n1_ := Aside0.mk (hbox); have n2_ := Aside0.mk ((by rw [hg]; exact (below_size (by repeat (first | (with_reducible first | exact HB.out | apply below_alloc | apply pw_below_drewN | apply below_drew1) | exact HB.out))) : w.heap.size ≤ gb139)); have n3_ := Aside0.mk ((by rw [hg]; exact (below_size (by repeat (first | (with_reducible first | exact HB.out | apply below_alloc | apply pw_below_drewN | apply below_drew1) | exact HB.out))) : w.heap.size ≤ gb139)); clear HB; have HB := n0_; have BK139 := n1_; have GW139 := n2_; have GE139 := n3_; clear n0_ n1_ n2_ n3_; clear hb hbox hg) | ((with_reducible refine gate_callee (f := 5) rfl ?_); refine goesL_ (some 13) rfl rfl Tryz.func5 (by kernel_rfl) rfl #[] rfl (by (try simp only [List.map_toArray, List.map_cons, List.map_nil]); first | done | rfl | (simp only [List.length_drop, List.length_take]; rfl)) ?_; (with_reducible refine (epicyclelaw06_alive.calls k  true _ A5.out).mono ?_); rintro e w16 ⟨rfl, hb⟩; refine ⟨_, rfl, ?_⟩; have n0_ := Aside0.mk (blk_below (g := gb139) (o := .cells #[.int .i64 a0_0, .int .i64 a0_1, .int .u64 a0_2, .slice A0_3 l0_3.length c0_3] 25 (0, 0)) (by (with_reducible repeat (first | refine blk_drewN ?_ _ | refine blk_drew ?_ | refine blk_alloc ?_ _)); exact BK139.out) hb); have n1_ := Aside0.mk (below_step (by repeat (first | (with_reducible first | exact HB.out | apply below_alloc | apply pw_below_drewN | apply below_drew1 | refine below_set ?_ GE139.out) | exact HB.out)) hb); clear BK139; clear HB; have BK139 := n0_; have HB := n1_; clear n0_ n1_; (try clear hb); (try clear hb2); (try clear hk); (try clear hi); have hcz17_0 : w16.cell? ⟨gb139, 0, none⟩ = some (.int .i64 a0_0) := (blk_cell BK139.out 0).trans rfl; have hcz17_1 : w16.cell? ⟨gb139, 1, none⟩ = some (.int .i64 a0_1) := (blk_cell BK139.out 1).trans rfl; have hcz17_2 : w16.cell? ⟨gb139, 2, none⟩ = some (.int .u64 a0_2) := (blk_cell BK139.out 2).trans rfl; have hcz17_3 : w16.cell? ⟨gb139, 3, none⟩ = some (.slice A0_3 l0_3.length c0_3) := (blk_cell BK139.out 3).trans rfl; have hfz17_0 := blk_frozen BK139.out 0; have hfz17_1 := blk_frozen BK139.out 1; have hfz17_2 := blk_frozen BK139.out 2; have hfz17_3 := blk_frozen BK139.out 3) | ((with_reducible refine gate_callee (f := 6) rfl ?_); refine goesL_ (some 17) rfl rfl Tryz.func6 (by kernel_rfl) rfl #[.agg #[.int .i64 a0_0, .int .i64 a0_1, .int .u64 a0_2, .slice A0_3 l0_3.length c0_3]] rfl (by (try simp only [List.map_toArray, List.map_cons, List.map_nil]); first | done | rfl | (simp only [List.length_drop, List.length_take]; rfl)) ?_; (with_reducible refine (epicyclelaw06_made.calls k a0_0 a0_1 a0_2 _ _ l0_3 t141 t144 t145 _ ?side1 ?side2 A7.out).mono ?_); (case side1 => repeat (first | exact (Kd.C_below HR0_3.out HB.out) | (with_reducible refine Kd.C_alloc ?_ _) | (with_reducible refine Kd.C_drewN ?_ _) | (with_reducible refine Kd.C_drew ?_))); (case side2 => exact HC0_3.out); rintro e w18 ⟨v142, rfl, ho0, hb⟩; refine ⟨_, rfl, ?_⟩; have n0_ := Aside0.mk (Kd.R_lower ho0 (below_size (by repeat (first | (with_reducible first | exact HB.out | apply below_alloc | apply pw_below_drewN | apply below_drew1 | refine below_set ?_ GE139.out) | exact HB.out)))); have n1_ := Aside0.mk (blk_below (g := gb139) (o := .cells #[.int .i64 a0_0, .int .i64 a0_1, .int .u64 a0_2, .slice A0_3 l0_3.length c0_3] 25 (0, 0)) (by (with_reducible repeat (first | refine blk_drewN ?_ _ | refine blk_drew ?_ | refine blk_alloc ?_ _)); exact BK139.out) hb); have n2_ := Aside0.mk (below_step (by repeat (first | (with_reducible first | exact HB.out | apply below_alloc | apply pw_below_drewN | apply below_drew1 | refine below_set ?_ GE139.out) | exact HB.out)) hb); clear BK139; clear HB; have HO143 := n0_; have BK139 := n1_; have HB := n2_; clear n0_ n1_ n2_; (try clear hb); (try clear hb2); (try clear hk); (try clear hi); (try clear ho0)))
   (try simp only [Act.put, List.setIfInBounds_toArray, List.set_cons_zero, List.set_cons_succ])
   go_cut [12] (fun v12 wc => ∃ (kq : Nat) (x12_13 : Int), v12 = .int .u64 x12_13 ∧ Aside0 (epicyclelaw06_FieldDoes.j0 kq a1 a2 a3 t141 t144 x12_13 = some true) ∧ Aside0 (kq ≤ k) ∧ Aside0 (Kd.R kFld 59 wc w.heap.size (fun _ => True) v142 t141) ∧ Aside0 (wc.heap[gb139]? = some (.cells #[.int .i64 a0_0, .int .i64 a0_1, .int .u64 a0_2, (.slice A0_3 l0_3.length c0_3)] 25 (0, 0))) ∧ Aside0 (Below w.heap.size w wc))
   case first =>
    have H := HC14.out
    clear HC14
    by_cases c19 : (Int.tmod a1 t144) = 0
    ·rw [if_pos c19] at H
     have c19b0 : ((Int.tmod a1 t144) == 0) = true := beq_iff_eq.mpr c19
     have c19b1 : ((Int.tmod a1 t144) != 0) = false := bne_eq_false_iff_eq.mpr c19
     clear c19
     (first | rw [c19b0] | (simp only [i64_w, i32_w]; rw [c19b0]) | skip)
     have H' := Aside0.mk H
     clear H
     go_wp2
     go_meet
     case rel => exact ⟨_, (0), (by first | rfl | (simp; done) | (simp [*]; done)), H', ⟨by first | omega | exact Nat.le_refl _⟩, ⟨by (with_reducible repeat (first | apply Kd.R_alloc | apply Kd.R_drewN | apply Kd.R_drew)); exact HO143.out⟩, ⟨by (with_reducible repeat (first | refine blk_drewN ?_ _ | refine blk_drew ?_ | refine blk_alloc ?_ _)); exact BK139.out⟩, ⟨by repeat (first | (with_reducible first | exact HB.out | apply below_alloc | apply pw_below_drewN | apply below_drew1 | refine below_set ?_ GE139.out) | exact HB.out)⟩⟩
    ·rw [if_neg c19] at H
     have c19b0 : ((Int.tmod a1 t144) == 0) = false := beq_eq_false_iff_ne.mpr c19
     have c19b1 : ((Int.tmod a1 t144) != 0) = true := bne_iff_ne.mpr c19
     (first | rw [c19b0] | (simp only [i64_w, i32_w]; rw [c19b0]) | skip)
     replace H := Option.bind_eq_some_iff.mp H
     obtain ⟨t146, A200, H⟩ := H
     replace H : (epicyclelaw06_FieldDoes.j0 k a1 a2 a3 t141 t144 t146) = some true := H
     have A20 := Aside0.mk A200
     clear A200
     have H' := Aside0.mk H
     clear H
     go_wp2_with (first | ((with_reducible refine gate_callee (f := 7) rfl ?_); refine goesL_ (some 31) rfl rfl Tryz.func7 (by kernel_rfl) rfl #[.int .u64 a1, .int .u64 t144] rfl (by (try simp only [List.map_toArray, List.map_cons, List.map_nil]); first | done | rfl | (simp only [List.length_drop, List.length_take]; rfl)) ?_; (with_reducible refine (epicycleref06_Inv.calls k a1 t144 t146 _ A20.out).mono ?_); rintro e w' ⟨rfl, ⟨nd, rfl⟩⟩; refine ⟨_, rfl, ?_⟩))
     go_meet
     case rel => exact ⟨_, (t146), (by first | rfl | (simp; done) | (simp [*]; done)), H', ⟨by first | omega | exact Nat.le_refl _⟩, ⟨by (with_reducible repeat (first | apply Kd.R_alloc | apply Kd.R_drewN | apply Kd.R_drew)); exact HO143.out⟩, ⟨by (with_reducible repeat (first | refine blk_drewN ?_ _ | refine blk_drew ?_ | refine blk_alloc ?_ _)); exact BK139.out⟩, ⟨by repeat (first | (with_reducible first | exact HB.out | apply below_alloc | apply pw_below_drewN | apply below_drew1 | refine below_set ?_ GE139.out) | exact HB.out)⟩⟩
   case rest =>
    clear HC14
    try clear c1
    try clear p2
    try clear c3
    try clear c5
    try clear c6
    try clear c7
    try clear c8
    try clear c8b0
    try clear c8b1
    try clear c9
    try clear c9b0
    try clear c9b1
    try clear c9b2
    try clear c19
    try clear c19b0
    try clear c19b1
    try clear hcz12_0
    try clear hcz12_1
    try clear hcz12_2
    try clear hcz12_3
    try clear hcz17_0
    try clear hcz17_1
    try clear hcz17_2
    try clear hcz17_3
    try clear hfz12_0
    try clear hfz12_1
    try clear hfz12_2
    try clear hfz12_3
    try clear hfz17_0
    try clear hfz17_1
    try clear hfz17_2
    try clear hfz17_3
    obtain ⟨kq, x12_13, rfl, HA, HJ13, HO_9, BK139, HB⟩ := hcut
    cases kq with
    | zero => exact absurd HA.out (by simp [epicyclelaw06_FieldDoes.j0])
    | succ kj13 =>
     have H := HA.out
     clear HA
     simp only [epicyclelaw06_FieldDoes.j0] at H
     replace H := Option.bind_eq_some_iff.mp H
     obtain ⟨t147, A210, H⟩ := H
     replace H : ((epicycleref02_Add.f a1 a2 t144).bind fun t148 => (if t147 = t148 then ((field_Field_Sub.f t141 a1 a2).bind fun t149 => ((epicycleref02_Neg.f a2 t144).bind fun t150 => ((epicycleref02_Add.f a1 t150 t144).bind fun t151 => (if t149 = t151 then ((field_Field_Neg.f t141 a1).bind fun t152 => ((epicycleref02_Neg.f a1 t144).bind fun t153 => (if t152 = t153 then ((field_Field_Mul.f t141 a1 a2).bind fun t154 => ((epicycleref02_Mul.f kj13 a1 a2 t144).bind fun t155 => (if t154 = t155 then ((field_Field_Pow.f t141 a1 a3).bind fun t156 => ((epicycleref02_Pow.f kj13 a1 a3 t144).bind fun t157 => (if t156 = t157 then ((field_Field_Inv.f t141 a1).bind fun t158 => (if t158 = x12_13 then ((field_Field_Lift.f t141 a1).bind fun t159 => ((epicycleref03_Up.f kj13 a1 t144).bind fun t160 => (if t159 = t160 then ((field_Field_Lift.f t141 a1).bind fun t161 => ((field_Field_Times.f t141 t161 a2).bind fun t162 => ((epicycleref02_Mul.f kj13 a1 a2 t144).bind fun t163 => (some (t162 == t163))))) else (some false)))) else (some false))) else (some false)))) else (some false)))) else (some false)))) else (some false))))) else (some false))) = some true := H
     have A21 := Aside0.mk A210
     clear A210
     replace H := Option.bind_eq_some_iff.mp H
     obtain ⟨t148, A220, H⟩ := H
     replace H : (if t147 = t148 then ((field_Field_Sub.f t141 a1 a2).bind fun t149 => ((epicycleref02_Neg.f a2 t144).bind fun t150 => ((epicycleref02_Add.f a1 t150 t144).bind fun t151 => (if t149 = t151 then ((field_Field_Neg.f t141 a1).bind fun t152 => ((epicycleref02_Neg.f a1 t144).bind fun t153 => (if t152 = t153 then ((field_Field_Mul.f t141 a1 a2).bind fun t154 => ((epicycleref02_Mul.f kj13 a1 a2 t144).bind fun t155 => (if t154 = t155 then ((field_Field_Pow.f t141 a1 a3).bind fun t156 => ((epicycleref02_Pow.f kj13 a1 a3 t144).bind fun t157 => (if t156 = t157 then ((field_Field_Inv.f t141 a1).bind fun t158 => (if t158 = x12_13 then ((field_Field_Lift.f t141 a1).bind fun t159 => ((epicycleref03_Up.f kj13 a1 t144).bind fun t160 => (if t159 = t160 then ((field_Field_Lift.f t141 a1).bind fun t161 => ((field_Field_Times.f t141 t161 a2).bind fun t162 => ((epicycleref02_Mul.f kj13 a1 a2 t144).bind fun t163 => (some (t162 == t163))))) else (some false)))) else (some false))) else (some false)))) else (some false)))) else (some false)))) else (some false))))) else (some false)) = some true := H
     have A22 := Aside0.mk A220
     clear A220
     by_cases c23 : t147 = t148
     ·rw [if_pos c23] at H
      have c23b0 : (t147 == t148) = true := beq_iff_eq.mpr c23
      have c23b1 : (t147 != t148) = false := bne_eq_false_iff_eq.mpr c23
      clear c23
      replace H := Option.bind_eq_some_iff.mp H
      obtain ⟨t149, A240, H⟩ := H
      replace H : ((epicycleref02_Neg.f a2 t144).bind fun t150 => ((epicycleref02_Add.f a1 t150 t144).bind fun t151 => (if t149 = t151 then ((field_Field_Neg.f t141 a1).bind fun t152 => ((epicycleref02_Neg.f a1 t144).bind fun t153 => (if t152 = t153 then ((field_Field_Mul.f t141 a1 a2).bind fun t154 => ((epicycleref02_Mul.f kj13 a1 a2 t144).bind fun t155 => (if t154 = t155 then ((field_Field_Pow.f t141 a1 a3).bind fun t156 => ((epicycleref02_Pow.f kj13 a1 a3 t144).bind fun t157 => (if t156 = t157 then ((field_Field_Inv.f t141 a1).bind fun t158 => (if t158 = x12_13 then ((field_Field_Lift.f t141 a1).bind fun t159 => ((epicycleref03_Up.f kj13 a1 t144).bind fun t160 => (if t159 = t160 then ((field_Field_Lift.f t141 a1).bind fun t161 => ((field_Field_Times.f t141 t161 a2).bind fun t162 => ((epicycleref02_Mul.f kj13 a1 a2 t144).bind fun t163 => (some (t162 == t163))))) else (some false)))) else (some false))) else (some false)))) else (some false)))) else (some false)))) else (some false)))) = some true := H
      have A24 := Aside0.mk A240
      clear A240
      replace H := Option.bind_eq_some_iff.mp H
      obtain ⟨t150, A250, H⟩ := H
      replace H : ((epicycleref02_Add.f a1 t150 t144).bind fun t151 => (if t149 = t151 then ((field_Field_Neg.f t141 a1).bind fun t152 => ((epicycleref02_Neg.f a1 t144).bind fun t153 => (if t152 = t153 then ((field_Field_Mul.f t141 a1 a2).bind fun t154 => ((epicycleref02_Mul.f kj13 a1 a2 t144).bind fun t155 => (if t154 = t155 then ((field_Field_Pow.f t141 a1 a3).bind fun t156 => ((epicycleref02_Pow.f kj13 a1 a3 t144).bind fun t157 => (if t156 = t157 then ((field_Field_Inv.f t141 a1).bind fun t158 => (if t158 = x12_13 then ((field_Field_Lift.f t141 a1).bind fun t159 => ((epicycleref03_Up.f kj13 a1 t144).bind fun t160 => (if t159 = t160 then ((field_Field_Lift.f t141 a1).bind fun t161 => ((field_Field_Times.f t141 t161 a2).bind fun t162 => ((epicycleref02_Mul.f kj13 a1 a2 t144).bind fun t163 => (some (t162 == t163))))) else (some false)))) else (some false))) else (some false)))) else (some false)))) else (some false)))) else (some false))) = some true := H
      have A25 := Aside0.mk A250
      clear A250
      replace H := Option.bind_eq_some_iff.mp H
      obtain ⟨t151, A260, H⟩ := H
      replace H : (if t149 = t151 then ((field_Field_Neg.f t141 a1).bind fun t152 => ((epicycleref02_Neg.f a1 t144).bind fun t153 => (if t152 = t153 then ((field_Field_Mul.f t141 a1 a2).bind fun t154 => ((epicycleref02_Mul.f kj13 a1 a2 t144).bind fun t155 => (if t154 = t155 then ((field_Field_Pow.f t141 a1 a3).bind fun t156 => ((epicycleref02_Pow.f kj13 a1 a3 t144).bind fun t157 => (if t156 = t157 then ((field_Field_Inv.f t141 a1).bind fun t158 => (if t158 = x12_13 then ((field_Field_Lift.f t141 a1).bind fun t159 => ((epicycleref03_Up.f kj13 a1 t144).bind fun t160 => (if t159 = t160 then ((field_Field_Lift.f t141 a1).bind fun t161 => ((field_Field_Times.f t141 t161 a2).bind fun t162 => ((epicycleref02_Mul.f kj13 a1 a2 t144).bind fun t163 => (some (t162 == t163))))) else (some false)))) else (some false))) else (some false)))) else (some false)))) else (some false)))) else (some false)) = some true := H
      have A26 := Aside0.mk A260
      clear A260
      by_cases c27 : t149 = t151
      ·rw [if_pos c27] at H
       have c27b0 : (t149 == t151) = true := beq_iff_eq.mpr c27
       have c27b1 : (t149 != t151) = false := bne_eq_false_iff_eq.mpr c27
       clear c27
       replace H := Option.bind_eq_some_iff.mp H
       obtain ⟨t152, A280, H⟩ := H
       replace H : ((epicycleref02_Neg.f a1 t144).bind fun t153 => (if t152 = t153 then ((field_Field_Mul.f t141 a1 a2).bind fun t154 => ((epicycleref02_Mul.f kj13 a1 a2 t144).bind fun t155 => (if t154 = t155 then ((field_Field_Pow.f t141 a1 a3).bind fun t156 => ((epicycleref02_Pow.f kj13 a1 a3 t144).bind fun t157 => (if t156 = t157 then ((field_Field_Inv.f t141 a1).bind fun t158 => (if t158 = x12_13 then ((field_Field_Lift.f t141 a1).bind fun t159 => ((epicycleref03_Up.f kj13 a1 t144).bind fun t160 => (if t159 = t160 then ((field_Field_Lift.f t141 a1).bind fun t161 => ((field_Field_Times.f t141 t161 a2).bind fun t162 => ((epicycleref02_Mul.f kj13 a1 a2 t144).bind fun t163 => (some (t162 == t163))))) else (some false)))) else (some false))) else (some false)))) else (some false)))) else (some false))) = some true := H
       have A28 := Aside0.mk A280
       clear A280
       replace H := Option.bind_eq_some_iff.mp H
       obtain ⟨t153, A290, H⟩ := H
       replace H : (if t152 = t153 then ((field_Field_Mul.f t141 a1 a2).bind fun t154 => ((epicycleref02_Mul.f kj13 a1 a2 t144).bind fun t155 => (if t154 = t155 then ((field_Field_Pow.f t141 a1 a3).bind fun t156 => ((epicycleref02_Pow.f kj13 a1 a3 t144).bind fun t157 => (if t156 = t157 then ((field_Field_Inv.f t141 a1).bind fun t158 => (if t158 = x12_13 then ((field_Field_Lift.f t141 a1).bind fun t159 => ((epicycleref03_Up.f kj13 a1 t144).bind fun t160 => (if t159 = t160 then ((field_Field_Lift.f t141 a1).bind fun t161 => ((field_Field_Times.f t141 t161 a2).bind fun t162 => ((epicycleref02_Mul.f kj13 a1 a2 t144).bind fun t163 => (some (t162 == t163))))) else (some false)))) else (some false))) else (some false)))) else (some false)))) else (some false)) = some true := H
       have A29 := Aside0.mk A290
       clear A290
       by_cases c30 : t152 = t153
       ·rw [if_pos c30] at H
        have c30b0 : (t152 == t153) = true := beq_iff_eq.mpr c30
        have c30b1 : (t152 != t153) = false := bne_eq_false_iff_eq.mpr c30
        clear c30
        replace H := Option.bind_eq_some_iff.mp H
        obtain ⟨t154, A310, H⟩ := H
        replace H : ((epicycleref02_Mul.f kj13 a1 a2 t144).bind fun t155 => (if t154 = t155 then ((field_Field_Pow.f t141 a1 a3).bind fun t156 => ((epicycleref02_Pow.f kj13 a1 a3 t144).bind fun t157 => (if t156 = t157 then ((field_Field_Inv.f t141 a1).bind fun t158 => (if t158 = x12_13 then ((field_Field_Lift.f t141 a1).bind fun t159 => ((epicycleref03_Up.f kj13 a1 t144).bind fun t160 => (if t159 = t160 then ((field_Field_Lift.f t141 a1).bind fun t161 => ((field_Field_Times.f t141 t161 a2).bind fun t162 => ((epicycleref02_Mul.f kj13 a1 a2 t144).bind fun t163 => (some (t162 == t163))))) else (some false)))) else (some false))) else (some false)))) else (some false))) = some true := H
        have A31 := Aside0.mk A310
        clear A310
        replace H := Option.bind_eq_some_iff.mp H
        obtain ⟨t155, A320, H⟩ := H
        replace H : (if t154 = t155 then ((field_Field_Pow.f t141 a1 a3).bind fun t156 => ((epicycleref02_Pow.f kj13 a1 a3 t144).bind fun t157 => (if t156 = t157 then ((field_Field_Inv.f t141 a1).bind fun t158 => (if t158 = x12_13 then ((field_Field_Lift.f t141 a1).bind fun t159 => ((epicycleref03_Up.f kj13 a1 t144).bind fun t160 => (if t159 = t160 then ((field_Field_Lift.f t141 a1).bind fun t161 => ((field_Field_Times.f t141 t161 a2).bind fun t162 => ((epicycleref02_Mul.f kj13 a1 a2 t144).bind fun t163 => (some (t162 == t163))))) else (some false)))) else (some false))) else (some false)))) else (some false)) = some true := H
        have A32 := Aside0.mk A320
        clear A320
        by_cases c33 : t154 = t155
        ·rw [if_pos c33] at H
         have c33b0 : (t154 == t155) = true := beq_iff_eq.mpr c33
         have c33b1 : (t154 != t155) = false := bne_eq_false_iff_eq.mpr c33
         clear c33
         replace H := Option.bind_eq_some_iff.mp H
         obtain ⟨t156, A340, H⟩ := H
         replace H : ((epicycleref02_Pow.f kj13 a1 a3 t144).bind fun t157 => (if t156 = t157 then ((field_Field_Inv.f t141 a1).bind fun t158 => (if t158 = x12_13 then ((field_Field_Lift.f t141 a1).bind fun t159 => ((epicycleref03_Up.f kj13 a1 t144).bind fun t160 => (if t159 = t160 then ((field_Field_Lift.f t141 a1).bind fun t161 => ((field_Field_Times.f t141 t161 a2).bind fun t162 => ((epicycleref02_Mul.f kj13 a1 a2 t144).bind fun t163 => (some (t162 == t163))))) else (some false)))) else (some false))) else (some false))) = some true := H
         have A34 := Aside0.mk A340
         clear A340
         replace H := Option.bind_eq_some_iff.mp H
         obtain ⟨t157, A350, H⟩ := H
         replace H : (if t156 = t157 then ((field_Field_Inv.f t141 a1).bind fun t158 => (if t158 = x12_13 then ((field_Field_Lift.f t141 a1).bind fun t159 => ((epicycleref03_Up.f kj13 a1 t144).bind fun t160 => (if t159 = t160 then ((field_Field_Lift.f t141 a1).bind fun t161 => ((field_Field_Times.f t141 t161 a2).bind fun t162 => ((epicycleref02_Mul.f kj13 a1 a2 t144).bind fun t163 => (some (t162 == t163))))) else (some false)))) else (some false))) else (some false)) = some true := H
         have A35 := Aside0.mk A350
         clear A350
         by_cases c36 : t156 = t157
         ·rw [if_pos c36] at H
          have c36b0 : (t156 == t157) = true := beq_iff_eq.mpr c36
          have c36b1 : (t156 != t157) = false := bne_eq_false_iff_eq.mpr c36
          clear c36
          replace H := Option.bind_eq_some_iff.mp H
          obtain ⟨t158, A370, H⟩ := H
          replace H : (if t158 = x12_13 then ((field_Field_Lift.f t141 a1).bind fun t159 => ((epicycleref03_Up.f kj13 a1 t144).bind fun t160 => (if t159 = t160 then ((field_Field_Lift.f t141 a1).bind fun t161 => ((field_Field_Times.f t141 t161 a2).bind fun t162 => ((epicycleref02_Mul.f kj13 a1 a2 t144).bind fun t163 => (some (t162 == t163))))) else (some false)))) else (some false)) = some true := H
          have A37 := Aside0.mk A370
          clear A370
          by_cases c38 : t158 = x12_13
          ·rw [if_pos c38] at H
           have c38b0 : (t158 == x12_13) = true := beq_iff_eq.mpr c38
           have c38b1 : (t158 != x12_13) = false := bne_eq_false_iff_eq.mpr c38
           clear c38
           replace H := Option.bind_eq_some_iff.mp H
           obtain ⟨t159, A390, H⟩ := H
           replace H : ((epicycleref03_Up.f kj13 a1 t144).bind fun t160 => (if t159 = t160 then ((field_Field_Lift.f t141 a1).bind fun t161 => ((field_Field_Times.f t141 t161 a2).bind fun t162 => ((epicycleref02_Mul.f kj13 a1 a2 t144).bind fun t163 => (some (t162 == t163))))) else (some false))) = some true := H
           have A39 := Aside0.mk A390
           clear A390
           replace H := Option.bind_eq_some_iff.mp H
           obtain ⟨t160, A400, H⟩ := H
           replace H : (if t159 = t160 then ((field_Field_Lift.f t141 a1).bind fun t161 => ((field_Field_Times.f t141 t161 a2).bind fun t162 => ((epicycleref02_Mul.f kj13 a1 a2 t144).bind fun t163 => (some (t162 == t163))))) else (some false)) = some true := H
           have A40 := Aside0.mk A400
           clear A400
           by_cases c41 : t159 = t160
           ·rw [if_pos c41] at H
            have c41b0 : (t159 == t160) = true := beq_iff_eq.mpr c41
            have c41b1 : (t159 != t160) = false := bne_eq_false_iff_eq.mpr c41
            clear c41
            replace H := Option.bind_eq_some_iff.mp H
            obtain ⟨t161, A420, H⟩ := H
            replace H : ((field_Field_Times.f t141 t161 a2).bind fun t162 => ((epicycleref02_Mul.f kj13 a1 a2 t144).bind fun t163 => (some (t162 == t163)))) = some true := H
            have A42 := Aside0.mk A420
            clear A420
            replace H := Option.bind_eq_some_iff.mp H
            obtain ⟨t162, A430, H⟩ := H
            replace H : ((epicycleref02_Mul.f kj13 a1 a2 t144).bind fun t163 => (some (t162 == t163))) = some true := H
            have A43 := Aside0.mk A430
            clear A430
            replace H := Option.bind_eq_some_iff.mp H
            obtain ⟨t163, A440, H⟩ := H
            replace H : (some (t162 == t163)) = some true := H
            have A44 := Aside0.mk A440
            clear A440
            have hR_ := Option.some.inj H
            obtain ⟨Ao45, co45, eo45⟩ := Kd.R_slice HO_9.out
            subst eo45
            obtain rfl : t159 = t161 := Option.some.inj (A39.out.symm.trans A42.out)
            obtain rfl : t155 = t163 := Option.some.inj (A32.out.symm.trans A44.out)
            go_wp2_with (first | ((with_reducible refine gate_callee (f := 8) rfl ?_); refine goesL_ (some 35) rfl rfl Tryz.func8 (by kernel_rfl) rfl #[toPtr (.slice Ao45 t141.length co45), .int .u64 a1, .int .u64 a2] rfl (by (try simp only [List.map_toArray, List.map_cons, List.map_nil]); first | done | (rw [hT_HO_9] <;> rfl) | rfl | (simp only [List.length_drop, List.length_take]; rfl)) ?_; (try rw [← hT_HO_9]); (with_reducible refine (field_Field_Add.calls _ _ t141 a1 a2 t147 _ ?side1 ?side2 A21.out).mono ?_); (case side1 => repeat (first | exact (Kd.R_reads' HO_9.out).2.2 | (with_reducible refine Kd.C_alloc ?_ _) | (with_reducible refine Kd.C_drewN ?_ _) | (with_reducible refine Kd.C_drew ?_))); (case side2 => exact (Kd.R_reads' HO_9.out).2.1); rintro e w' ⟨rfl, ⟨nd, rfl⟩⟩; refine ⟨_, rfl, ?_⟩) | (go_at_call 8; (try rw [← hT_HO_9]); (with_reducible refine (field_Field_Add.calls _ _ t141 a1 a2 t147 _ ?side1 ?side2 A21.out).mono ?_); (case side1 => repeat (first | exact (Kd.R_reads' HO_9.out).2.2 | (with_reducible refine Kd.C_alloc ?_ _) | (with_reducible refine Kd.C_drewN ?_ _) | (with_reducible refine Kd.C_drew ?_))); (case side2 => exact (Kd.R_reads' HO_9.out).2.1); rintro e w' ⟨rfl, ⟨nd, rfl⟩⟩) | ((with_reducible refine gate_callee (f := 9) rfl ?_); refine goesL_ (some 39) rfl rfl Tryz.func9 (by kernel_rfl) rfl #[.int .u64 a1, .int .u64 a2, .int .u64 t144] rfl (by (try simp only [List.map_toArray, List.map_cons, List.map_nil]); first | done | rfl | (simp only [List.length_drop, List.length_take]; rfl)) ?_; (with_reducible refine (epicycleref02_Add.calls a1 a2 t144 t148 _ A22.out).mono ?_); rintro e w' ⟨rfl, ⟨nd, rfl⟩⟩; refine ⟨_, rfl, ?_⟩) | (go_at_call 9; (with_reducible refine (epicycleref02_Add.calls a1 a2 t144 t148 _ A22.out).mono ?_); rintro e w' ⟨rfl, ⟨nd, rfl⟩⟩) | (go_at_call 10; (try rw [← hT_HO_9]); (with_reducible refine (field_Field_Sub.calls _ _ t141 a1 a2 t149 _ ?side1 ?side2 A24.out).mono ?_); (case side1 => repeat (first | exact (Kd.R_reads' HO_9.out).2.2 | (with_reducible refine Kd.C_alloc ?_ _) | (with_reducible refine Kd.C_drewN ?_ _) | (with_reducible refine Kd.C_drew ?_))); (case side2 => exact (Kd.R_reads' HO_9.out).2.1); rintro e w' ⟨rfl, ⟨nd, rfl⟩⟩) | (go_at_call 11; (with_reducible refine (epicycleref02_Neg.calls a2 t144 t150 _ A25.out).mono ?_); rintro e w' ⟨rfl, ⟨nd, rfl⟩⟩) | (go_at_call 9; (with_reducible refine (epicycleref02_Add.calls a1 t150 t144 t151 _ A26.out).mono ?_); rintro e w' ⟨rfl, ⟨nd, rfl⟩⟩) | (go_at_call 12; (try rw [← hT_HO_9]); (with_reducible refine (field_Field_Neg.calls _ _ t141 a1 t152 _ ?side1 ?side2 A28.out).mono ?_); (case side1 => repeat (first | exact (Kd.R_reads' HO_9.out).2.2 | (with_reducible refine Kd.C_alloc ?_ _) | (with_reducible refine Kd.C_drewN ?_ _) | (with_reducible refine Kd.C_drew ?_))); (case side2 => exact (Kd.R_reads' HO_9.out).2.1); rintro e w' ⟨rfl, ⟨nd, rfl⟩⟩) | (go_at_call 11; (with_reducible refine (epicycleref02_Neg.calls a1 t144 t153 _ A29.out).mono ?_); rintro e w' ⟨rfl, ⟨nd, rfl⟩⟩) | (go_at_call 13; (try rw [← hT_HO_9]); (with_reducible refine (field_Field_Mul.calls _ _ t141 a1 a2 t154 _ ?side1 ?side2 A31.out).mono ?_); (case side1 => repeat (first | exact (Kd.R_reads' HO_9.out).2.2 | (with_reducible refine Kd.C_alloc ?_ _) | (with_reducible refine Kd.C_drewN ?_ _) | (with_reducible refine Kd.C_drew ?_))); (case side2 => exact (Kd.R_reads' HO_9.out).2.1); rintro e w' ⟨rfl, ⟨nd, rfl⟩⟩) | (go_at_call 14; (with_reducible refine (epicycleref02_Mul.calls kj13 a1 a2 t144 t155 _ A32.out).mono ?_); rintro e w' ⟨rfl, ⟨nd, rfl⟩⟩) | (go_at_call 15; (try rw [← hT_HO_9]); (with_reducible refine (field_Field_Pow.calls _ _ t141 a1 a3 t156 _ ?side1 ?side2 A34.out).mono ?_); (case side1 => repeat (first | exact (Kd.R_reads' HO_9.out).2.2 | (with_reducible refine Kd.C_alloc ?_ _) | (with_reducible refine Kd.C_drewN ?_ _) | (with_reducible refine Kd.C_drew ?_))); (case side2 => exact (Kd.R_reads' HO_9.out).2.1); rintro e w' ⟨rfl, ⟨nd, rfl⟩⟩) | (go_at_call 16; (with_reducible refine (epicycleref02_Pow.calls kj13 a1 a3 t144 t157 _ A35.out).mono ?_); rintro e w' ⟨rfl, ⟨nd, rfl⟩⟩) | (go_at_call 17; (try rw [← hT_HO_9]); (with_reducible refine (field_Field_Inv.calls _ _ t141 a1 t158 _ ?side1 ?side2 A37.out).mono ?_); (case side1 => repeat (first | exact (Kd.R_reads' HO_9.out).2.2 | (with_reducible refine Kd.C_alloc ?_ _) | (with_reducible refine Kd.C_drewN ?_ _) | (with_reducible refine Kd.C_drew ?_))); (case side2 => exact (Kd.R_reads' HO_9.out).2.1); rintro e w' ⟨rfl, ⟨nd, rfl⟩⟩) | (go_at_call 18; (try rw [← hT_HO_9]); (with_reducible refine (field_Field_Lift.calls _ _ t141 a1 t159 _ ?side1 ?side2 A39.out).mono ?_); (case side1 => repeat (first | exact (Kd.R_reads' HO_9.out).2.2 | (with_reducible refine Kd.C_alloc ?_ _) | (with_reducible refine Kd.C_drewN ?_ _) | (with_reducible refine Kd.C_drew ?_))); (case side2 => exact (Kd.R_reads' HO_9.out).2.1); rintro e w' ⟨rfl, ⟨nd, rfl⟩⟩) | (go_at_call 19; (with_reducible refine (epicycleref03_Up.calls kj13 a1 t144 t160 _ A40.out).mono ?_); rintro e w' ⟨rfl, ⟨nd, rfl⟩⟩) | (go_at_call 18; (try rw [← hT_HO_9]); (with_reducible refine (field_Field_Lift.calls _ _ t141 a1 t159 _ ?side1 ?side2 A42.out).mono ?_); (case side1 => repeat (first | exact (Kd.R_reads' HO_9.out).2.2 | (with_reducible refine Kd.C_alloc ?_ _) | (with_reducible refine Kd.C_drewN ?_ _) | (with_reducible refine Kd.C_drew ?_))); (case side2 => exact (Kd.R_reads' HO_9.out).2.1); rintro e w' ⟨rfl, ⟨nd, rfl⟩⟩) | (go_at_call 20; (try rw [← hT_HO_9]); (with_reducible refine (field_Field_Times.calls _ _ t141 t159 a2 t162 _ ?side1 ?side2 A43.out).mono ?_); (case side1 => repeat (first | exact (Kd.R_reads' HO_9.out).2.2 | (with_reducible refine Kd.C_alloc ?_ _) | (with_reducible refine Kd.C_drewN ?_ _) | (with_reducible refine Kd.C_drew ?_))); (case side2 => exact (Kd.R_reads' HO_9.out).2.1); rintro e w' ⟨rfl, ⟨nd, rfl⟩⟩) | (go_at_call 14; (with_reducible refine (epicycleref02_Mul.calls kj13 a1 a2 t144 t155 _ A44.out).mono ?_); rintro e w' ⟨rfl, ⟨nd, rfl⟩⟩))
            go_ret
            exact ⟨by first | rfl | (simp [errW_none, errW_some] <;> rfl) | (simp [*, errW_none, errW_some] <;> rfl), by repeat (first | (with_reducible first | exact HB.out | apply below_alloc | apply pw_below_drewN | apply below_drew1 | refine below_set ?_ GE139.out) | exact HB.out)⟩
           ·rw [if_neg c41] at H
            have c41b0 : (t159 == t160) = false := beq_eq_false_iff_ne.mpr c41
            have c41b1 : (t159 != t160) = true := bne_iff_ne.mpr c41
            exact absurd H (by simp)
          ·rw [if_neg c38] at H
           have c38b0 : (t158 == x12_13) = false := beq_eq_false_iff_ne.mpr c38
           have c38b1 : (t158 != x12_13) = true := bne_iff_ne.mpr c38
           exact absurd H (by simp)
         ·rw [if_neg c36] at H
          have c36b0 : (t156 == t157) = false := beq_eq_false_iff_ne.mpr c36
          have c36b1 : (t156 != t157) = true := bne_iff_ne.mpr c36
          exact absurd H (by simp)
        ·rw [if_neg c33] at H
         have c33b0 : (t154 == t155) = false := beq_eq_false_iff_ne.mpr c33
         have c33b1 : (t154 != t155) = true := bne_iff_ne.mpr c33
         exact absurd H (by simp)
       ·rw [if_neg c30] at H
        have c30b0 : (t152 == t153) = false := beq_eq_false_iff_ne.mpr c30
        have c30b1 : (t152 != t153) = true := bne_iff_ne.mpr c30
        exact absurd H (by simp)
      ·rw [if_neg c27] at H
       have c27b0 : (t149 == t151) = false := beq_eq_false_iff_ne.mpr c27
       have c27b1 : (t149 != t151) = true := bne_iff_ne.mpr c27
       exact absurd H (by simp)
     ·rw [if_neg c23] at H
      have c23b0 : (t147 == t148) = false := beq_eq_false_iff_ne.mpr c23
      have c23b1 : (t147 != t148) = true := bne_iff_ne.mpr c23
      exact absurd H (by simp)
 ·replace c6 := Bool.eq_false_iff.mpr c6
  subst c6
  have H1 : (some false) = some true := by rw [if_neg (show ¬ (false = true) by decide)] at H <;> exact H
  clear H
  have H := H1
  clear H1
  exact absurd H (by simp)
end Go.Proofs.YthnpjjpdlihepaaGreat.XD
end
