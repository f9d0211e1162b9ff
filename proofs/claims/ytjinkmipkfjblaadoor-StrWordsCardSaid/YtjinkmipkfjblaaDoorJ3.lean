/- Texts of this claim, joined by a program: StrR, StrF, StrW. -/
import Derived.Test.YtjinkmipkfjblaaDoorJ2
import Derived.Lib.IndexAny
/- The chapter's other tools, plainly: words, strips, cuts, finding, turning, digits. -/
namespace Go.Proofs.YtjinkmipkfjblaaDoor
open Go Go.RowKit
def blanks : List UInt8 := [32, 9, 10, 13, 11, 12]
def isBl (c : UInt8) : Bool := blanks.contains c
theorem idx_is (l : List UInt8) (c : UInt8) : decide ((0 : Int) ≤ Lib.indexByte l c) = l.contains c := (Lib.contains_iff_indexByte l c).symm
theorem u8_back (c : UInt8) : ((c.toNat : Int)).toNat.toUInt8 = c := by simp
theorem idxb_M {l : List UInt8} {c : UInt8} {K : Int → Prop} (h : K (Lib.indexByte l c)) : M_strings_IndexByte l (c.toNat : Int) K := by
  unfold M_strings_IndexByte
  rw [u8_back]; exact h
/-! words -/
def wrd : List UInt8 → List UInt8 → List (List UInt8)
  | cur, [] => if cur = [] then [] else [cur]
  | cur, c :: s => if isBl c then (if cur = [] then [] else [cur]) ++ wrd [] s else wrd (cur ++ [c]) s
def wordsP (s : List UInt8) : List (List UInt8) := wrd [] s
theorem words_M {s : List UInt8} {K : List (List UInt8) → Prop} (hs : s.length ≤ 1000000) (h : K (wordsP s)) : M_str_Words s K := by
  refine ⟨fun l from_ i => 0 ≤ from_ ∧ from_ ≤ i ∧ i ≤ s.length + 1 ∧ l.length ≤ i ∧ (i ≤ s.length → wordsP s = l ++ wrd ((s.drop from_.toNat).take (i.toNat - from_.toNat)) (s.drop i.toNat)) ∧ (i = s.length + 1 → l = wordsP s), fun _ _ i => s.length + 1 - i.toNat, ⟨by omega, by omega, by omega, by simp, by simp [wordsP], fun e => absurd e (by omega)⟩, fun l from_ i ⟨a0, a1, a2, a3, a4, a5⟩ => ⟨fun hlt => ?_, fun hge => ?_⟩⟩
  · have a4 := a4 hlt
    have hp0 : (from_ < i) ↔ (s.drop from_.toNat).take (i.toNat - from_.toNat) ≠ [] := by
      constructor
      · intro hf e
        have := congrArg List.length e
        rw [List.length_take, List.length_drop, List.length_nil] at this
        omega
      · intro hf
        rcases Int.lt_or_le from_ i with h1 | h1
        · exact h1
        · exact absurd (by rw [show i.toNat - from_.toNat = 0 by omega, List.take_zero]) hf
    refine ⟨fun l2 f2 => (i < s.length ∧ isBl (s.getD i.toNat 0) = false ∧ l2 = l ∧ f2 = from_) ∨ ((i = s.length ∨ isBl (s.getD i.toNat 0) = true) ∧ l2 = l ++ (if (s.drop from_.toNat).take (i.toNat - from_.toNat) = [] then [] else [(s.drop from_.toNat).take (i.toNat - from_.toNat)]) ∧ f2 = i + 1), ⟨fun q => q = (decide (i < s.length) && !isBl (s.getD i.toNat 0)), ⟨fun f => ⟨by rw [decide_eq_true_eq] at f; omega, ?_⟩, fun f => by rw [f]; rfl⟩, ?_⟩, ?_⟩
    · rw [f, Bool.true_and]
      refine idxb_M ?_
      show decide (Lib.indexByte blanks (s.getD i.toNat 0) < (0 : Int)) = !(blanks.contains (s.getD i.toNat 0))
      rw [← idx_is, ← decide_not]
      congr 1
      rw [eq_iff_iff]; omega
    · rintro _ rfl
      refine ⟨fun f => ?_, fun f => ⟨fun l3 => l3 = l ++ (if (s.drop from_.toNat).take (i.toNat - from_.toNat) = [] then [] else [(s.drop from_.toNat).take (i.toNat - from_.toNat)]), ⟨fun g => ⟨by omega, by simp only [List.length_singleton]; omega, by rw [if_neg (hp0.1 g)]⟩, fun g => ?_⟩, ?_⟩⟩
      · rw [Bool.and_eq_true, decide_eq_true_eq, Bool.not_eq_true'] at f
        exact .inl ⟨f.1, f.2, rfl, rfl⟩
      · rw [if_pos (by rcases Classical.em ((s.drop from_.toNat).take (i.toNat - from_.toNat) = []) with h1 | h1; exact h1; exact absurd (hp0.2 h1) g), List.append_nil]
      · rintro _ rfl
        refine ⟨by simp only [In]; omega, .inr ⟨?_, rfl, rfl⟩⟩
        rw [Bool.and_eq_false_iff, decide_eq_false_iff_not, Bool.not_eq_false'] at f
        rcases f with f | f
        · exact .inl (by omega)
        · exact .inr f
    · rintro l2 f2 (⟨g1, g2, rfl, rfl⟩ | ⟨g1, rfl, rfl⟩)
      · refine ⟨by simp only [In]; omega, ⟨by omega, by omega, by omega, by omega, fun _ => ?_, fun e => absurd e (by omega)⟩, by dsimp only; omega⟩
        rw [a4, drop_isB (show i.toNat < s.length by omega), wrd, g2, if_neg (by decide), show (i + 1).toNat = i.toNat + 1 by omega, piece_moreB (by omega) (by omega)]
      · refine ⟨by simp only [In]; omega, ⟨by omega, by omega, by omega, ?_, fun hi => ?_, fun hi => ?_⟩, by dsimp only; omega⟩
        · rw [List.length_append]; split <;> simp <;> omega
        · have g2 : isBl (s.getD i.toNat 0) = true := by rcases g1 with g1 | g1; omega; exact g1
          rw [a4, drop_isB (show i.toNat < s.length by omega), wrd, if_pos g2, Nat.sub_self, List.take_zero, show (i + 1).toNat = i.toNat + 1 by omega, List.append_assoc]
        · rw [a4, List.drop_eq_nil_of_le (show s.length ≤ i.toNat by omega), wrd]
  · rw [a5 (by omega)]; exact h
/-! stripping -/
def stripSet (bytes : List UInt8) : List UInt8 := if bytes = [] then blanks else bytes
def lstrip (p : UInt8 → Bool) (left : Bool) (s : List UInt8) : List UInt8 := if left then s.dropWhile p else s
def rstrip (p : UInt8 → Bool) (right : Bool) (s : List UInt8) : List UInt8 := if right then (s.reverse.dropWhile p).reverse else s
def stripP (bytes : List UInt8) (left right : Bool) (s : List UInt8) : List UInt8 := rstrip (stripSet bytes).contains right (lstrip (stripSet bytes).contains left s)
theorem lstrip_step (p : UInt8 → Bool) (left : Bool) (s : List UInt8) : lstrip p left s = if (left && !decide (s = [])) = true ∧ p (s.getD 0 0) = true then lstrip p left (s.drop 1) else s := by
  unfold lstrip
  cases left with
  | false => simp
  | true =>
    cases s with
    | nil => simp
    | cons c s => cases h : p c <;> simp [h]
theorem last_is {s : List UInt8} (h : s ≠ []) : s = s.take (s.length - 1) ++ [s.getD (s.length - 1) 0] := by
  have hp := List.length_pos_iff.2 h
  conv => lhs; rw [← List.take_append_drop (s.length - 1) s]
  congr 1
  rw [drop_isB (by omega), List.drop_eq_nil_of_le (by omega)]
theorem rstrip_step (p : UInt8 → Bool) (right : Bool) (s : List UInt8) : rstrip p right s = if (right && !decide (s = [])) = true ∧ p (s.getD (s.length - 1) 0) = true then rstrip p right (s.take (s.length - 1)) else s := by
  unfold rstrip
  cases right with
  | false => simp
  | true =>
    by_cases h : s = []
    · subst h; simp
    · have e := last_is h
      generalize s.take (s.length - 1) = t at *
      generalize s.getD (s.length - 1) 0 = c at *
      subst e
      cases hc : p c <;> simp [hc]
theorem strip_M {s bytes : List UInt8} {left right : Bool} {K : List UInt8 → Prop} (hs : s.length ≤ 1000000) (h : K (stripP bytes left right s)) : M_str_Strip s bytes left right K := by
  refine ⟨fun b => b = stripSet bytes, ⟨fun e => by unfold stripSet; rw [if_pos e]; rfl, fun e => by unfold stripSet; rw [if_neg e]⟩, ?_⟩
  rintro _ rfl
  unfold stripP at h
  refine ⟨fun s2 => s2.length ≤ s.length ∧ lstrip (stripSet bytes).contains left s2 = lstrip (stripSet bytes).contains left s, fun s2 => s2.length, ⟨Nat.le_refl _, rfl⟩, fun s2 ⟨a0, a1⟩ => ?_⟩
  have hst := lstrip_step (stripSet bytes).contains left s2
  refine ⟨fun q => q = ((left && !decide (s2 = [])) && (stripSet bytes).contains (s2.getD 0 0)), ⟨fun f => ?_, fun f => by rw [f]; rfl⟩, ?_⟩
  · have hne : s2 ≠ [] := by simp at f; exact f.2
    have hp := List.length_pos_iff.2 hne
    refine ⟨by omega, ?_⟩
    rw [f, Bool.true_and]
    exact idxb_M (idx_is _ _)
  rintro _ rfl
  refine ⟨fun f => ?_, fun f => ?_⟩
  · rw [Bool.and_eq_true] at f
    have hne : s2 ≠ [] := by have := f.1; simp at this; exact this.2
    have hp := List.length_pos_iff.2 hne
    refine ⟨by omega, ⟨by rw [List.length_drop]; omega, ?_⟩, by dsimp only; rw [List.length_drop]; omega⟩
    rw [if_pos f] at hst
    rw [← hst, a1]
  · rw [if_neg (by rw [← Bool.and_eq_true, f]; decide)] at hst
    rw [hst] at a1
    rw [← a1] at h
    refine ⟨fun s3 => s3.length ≤ s.length ∧ rstrip (stripSet bytes).contains right s3 = rstrip (stripSet bytes).contains right s2, fun s3 => s3.length, ⟨a0, rfl⟩, fun s3 ⟨b0, b1⟩ => ?_⟩
    have hst := rstrip_step (stripSet bytes).contains right s3
    have el : ((s3.length : Int) - 1).toNat = s3.length - 1 := by omega
    refine ⟨fun q => q = ((right && !decide (s3 = [])) && (stripSet bytes).contains (s3.getD (s3.length - 1) 0)), ⟨fun f => ?_, fun f => by rw [f]; rfl⟩, ?_⟩
    · have hne : s3 ≠ [] := by simp at f; exact f.2
      have hp := List.length_pos_iff.2 hne
      refine ⟨by simp only [In]; omega, by omega, ?_⟩
      rw [f, Bool.true_and, el]
      exact idxb_M (idx_is _ _)
    rintro _ rfl
    refine ⟨fun f => ?_, fun f => ?_⟩
    · rw [Bool.and_eq_true] at f
      have hne : s3 ≠ [] := by have := f.1; simp at this; exact this.2
      have hp := List.length_pos_iff.2 hne
      refine ⟨by simp only [In]; omega, by omega, ⟨by rw [List.length_take]; omega, ?_⟩, by dsimp only; rw [List.length_take]; omega⟩
      rw [if_pos f] at hst
      rw [el, ← hst, b1]
    · rw [if_neg (by rw [← Bool.and_eq_true, f]; decide)] at hst
      rw [hst] at b1
      rw [b1]; exact h
/-! bounds and finding -/
def bndP (n i : Int) : Int := if i < 0 then (if i < -n then 0 else n + i) else (if n < i then n else i)
theorem bound_MB {n i : Int} {K : Int → Prop} (hn : 0 ≤ n) (hn2 : n ≤ 1000000) (hi : In .i64 i) (h : K (bndP n i)) : M_str_bound n i K := by
  simp only [In] at hi
  refine ⟨fun j => j = if i < 0 then i + n else i, ⟨fun e => ⟨by simp only [In]; omega, by rw [if_pos e]⟩, fun e => by rw [if_neg e]⟩, ?_⟩
  rintro _ rfl
  refine (congrArg K ?_).mp h
  unfold bndP
  repeat' split
  all_goals omega
def cutA (n i : Int) (has : Bool) : Int := if has then bndP n i else 0
def cutB (n j : Int) (until_ : Bool) : Int := if until_ then bndP n j else n
def cutP (n i j : Int) (has until_ : Bool) : Int × Int := (cutA n i has, if cutA n i has < cutB n j until_ then cutB n j until_ else cutA n i has)
theorem cut_M {n i j : Int} {has until_ : Bool} {K : Int → Int → Prop} (hn : 0 ≤ n) (hn2 : n ≤ 1000000) (hi : In .i64 i) (hj : In .i64 j) (h : K (cutP n i j has until_).1 (cutP n i j has until_).2) : M_str_Cut n i j has until_ K := by
  have e0 : (if n < (0 : Int) then (0 : Int) else n) = n := if_neg (by omega)
  unfold M_str_Cut
  rw [e0]
  refine ⟨fun x => x = if has then i else 0, ⟨fun e => ?_, fun e => ?_⟩, ?_⟩
  · rw [Bool.not_eq_true'] at e; rw [e]; rfl
  · rw [Bool.not_eq_false'] at e; rw [e]; rfl
  rintro _ rfl
  refine ⟨fun x => x = if until_ then j else n, ⟨fun e => ?_, fun e => ?_⟩, ?_⟩
  · rw [Bool.not_eq_true'] at e; rw [e]; rfl
  · rw [Bool.not_eq_false'] at e; rw [e]; rfl
  rintro _ rfl
  have e1 : bndP n (if has = true then i else 0) = cutA n i has := by unfold cutA; cases has with
    | true => rfl
    | false => unfold bndP; simp; omega
  have e2 : bndP n (if until_ = true then j else n) = cutB n j until_ := by unfold cutB; cases until_ with
    | true => rfl
    | false => unfold bndP; simp; omega
  refine bound_MB hn hn2 ?_ (bound_MB hn hn2 ?_ ?_)
  · split
    · exact hi
    · simp only [In]; omega
  · split
    · exact hj
    · simp only [In]; omega
  · rw [e1, e2]; exact h
/-! digits -/
def isDg (c : UInt8) : Bool := !(decide (((c.toNat : Int)) < (48 : Int)) || decide ((57 : Int) < (c.toNat : Int)))
def digitsP (s : List UInt8) : Bool := s.all isDg && !decide (s = [])
theorem digits_loop {s : List UInt8} {K : Bool → Prop} (hs : s.length ≤ 1000000) (h : K (digitsP s)) : Lp1 (fun (i : Int) k_1 => ((i < (s.length : Int) → (0 ≤ i ∧ i < s.length) ∧
 ((decide (((s.getD i.toNat 0).toNat : Int) < (48 : Int))) = false → (0 ≤ i ∧ i < s.length)) ∧
 ((((decide (((s.getD i.toNat 0).toNat : Int) < (48 : Int))) || (decide ((57 : Int) < ((s.getD i.toNat 0).toNat : Int)))) = true → K false) ∧
 (((decide (((s.getD i.toNat 0).toNat : Int) < (48 : Int))) || (decide ((57 : Int) < ((s.getD i.toNat 0).toNat : Int)))) = false → (In .i64 (i + (1 : Int))) ∧
 k_1 (i + (1 : Int))))) ∧
 (¬ (i < (s.length : Int)) → K (!decide (s = ([] : List UInt8)))))) (0 : Int) := by
  refine ⟨fun i => 0 ≤ i ∧ i ≤ s.length ∧ ∀ j, j < i.toNat → isDg (s.getD j 0) = true, fun i => s.length - i.toNat, ⟨by omega, by omega, fun j hj => by simp at hj⟩, fun i ⟨a0, a1, a2⟩ => ⟨fun hlt => ⟨by omega, fun _ => by omega, fun f => ?_, fun f => ⟨by simp only [In]; omega, ⟨by omega, by omega, fun j hj => ?_⟩, by dsimp only; omega⟩⟩, fun hge => ?_⟩⟩
  · have : digitsP s = false := by
      unfold digitsP
      rw [Bool.and_eq_false_iff]
      refine .inl ?_
      rw [List.all_eq_false]
      refine ⟨s.getD i.toNat 0, by simp [List.getD, show i.toNat < s.length by omega], ?_⟩
      unfold isDg
      rw [f]; decide
    rw [this] at h; exact h
  · by_cases e : j = i.toNat
    · rw [e]; unfold isDg; rw [f]; rfl
    · exact a2 j (by omega)
  · have : s.all isDg = true := by
      rw [List.all_eq_true]
      intro x hx
      obtain ⟨j, hj, rfl⟩ := List.getElem_of_mem hx
      have := a2 j (by omega)
      simpa [List.getD, hj] using this
    unfold digitsP at h
    rw [this, Bool.true_and] at h; exact h
theorem digits_M {s : List UInt8} {K : Bool → Prop} (hs : s.length ≤ 1000000) (h : K (digitsP s)) : M_str_IsDigits s K := digits_loop hs h
end Go.Proofs.YtjinkmipkfjblaaDoor


 /- The chapter's first look, and three laws, plainly: StrCuts, StrParts, StrRooms. -/
namespace Go.Proofs.YtjinkmipkfjblaaDoor
open Go Go.RowKit
theorem sameT_M {a b : List (List UInt8)} {K : Bool → Prop} (ha : a.length ≤ 1000000) (_ : b.length ≤ 1000000) (h : K (decide (a = b))) : M_smithyref_SameTexts a b K := by
  intro _ _
  refine ⟨fun e => ?_, fun e => ?_⟩
  · rw [decide_eq_false (fun e2 => e (by rw [e2]))] at h; exact h
  · have e' : a.length = b.length := by omega
    refine ⟨fun i => 0 ≤ i ∧ i ≤ a.length ∧ ∀ j, j < i.toNat → a.getD j [] = b.getD j [], fun i => a.length - i.toNat, ⟨by omega, by omega, fun j hj => by simp at hj⟩, fun i ⟨a0, a1, a2⟩ => ⟨fun hlt => ⟨by omega, by omega, fun f => ?_, fun f => ⟨by simp only [In]; omega, ⟨by omega, by omega, fun j hj => ?_⟩, by dsimp only; omega⟩⟩, fun hge => ?_⟩⟩
    · rw [decide_eq_false (fun e2 => f (by rw [e2]))] at h; exact h
    · by_cases e3 : j = i.toNat
      · rw [e3]; exact f
      · exact a2 j (by omega)
    · have : a = b := by
        apply List.ext_getElem e'
        intro j h1 h2
        have := a2 j (by omega)
        simpa [List.getD, h1, h2] using this
      rw [decide_eq_true this] at h; exact h
theorem vtexts_MB {l : List (List UInt8)} {most long : Int} {K : Bool → Prop} (hl : most ≤ 1000000) (h : ∀ t : Bool, (t = true → (l.length : Int) ≤ most ∧ ∀ x ∈ l, (x.length : Int) ≤ long) → K t) : M_smithyworld_Texts l most long K := by
  intro _
  refine ⟨fun _ => h false (fun e => by cases e), fun hm => ⟨fun i => 0 ≤ i ∧ i ≤ l.length ∧ ∀ j, j < i.toNat → ((l.getD j []).length : Int) ≤ long, fun i => l.length - i.toNat, ⟨by omega, by omega, by intro j hj; simp at hj⟩, fun i ⟨a0, a1, a2⟩ => ⟨fun hlt => ⟨by omega, fun _ => h false (fun e => by cases e), fun hle => ⟨by simp only [In]; omega, ⟨by omega, by omega, fun j hj => ?_⟩, by dsimp only; omega⟩⟩, fun hge => h true fun _ => ⟨by omega, fun x hx => ?_⟩⟩⟩⟩
  · by_cases e : j = i.toNat
    · rw [e]; omega
    · exact a2 j (by omega)
  · obtain ⟨j, hj, rfl⟩ := List.getElem_of_mem hx
    have := a2 j (by omega)
    simpa [List.getD, hj] using this
theorem num_MB {n below : Int} {K : Int → Prop} (hb : 0 < below) (hb2 : below ≤ 100000) (h : ∀ m, 0 ≤ m → m < below → K m) : M_smithyworld_Number n below K := by
  have h1 := Int.tmod_lt_of_pos n hb
  have h2 : -below < n.tmod below := Int.lt_tmod_of_pos n hb
  have h3 : 0 ≤ (n.tmod below + below).tmod below := Int.tmod_nonneg below (by omega)
  have h4 := Int.tmod_lt_of_pos (n.tmod below + below) hb
  exact ⟨by omega, by simp only [In]; omega, by omega, h _ h3 h4⟩
theorem in_le {x : Int} (h : -1000 ≤ x ∧ x ≤ 1000) : In .i64 x := by simp only [In]; omega
theorem name_x {K : Bool → Prop} (h : K true) : M_lex_Name [120] K := by
  refine ⟨fun i => i = 0 ∨ i = 1, fun i => (2 - i).toNat, .inl rfl, ?_⟩
  rintro i (rfl | rfl)
  · refine ⟨fun _ => ⟨by decide, ?_⟩, fun f => absurd (by decide) f⟩
    unfold M_lex_letter
    refine ⟨fun q => q = false, ⟨fun f => absurd f (by decide), fun _ => rfl⟩, ?_⟩
    rintro _ rfl
    exact ⟨fun f => (by cases f), fun _ => ⟨by simp only [In]; omega, .inr rfl, by decide⟩⟩
  · refine ⟨fun f => absurd f (by decide), fun _ => ⟨fun q => q = true, ⟨fun _ => ?_, fun f => absurd f (by decide)⟩, ?_⟩⟩
    · unfold M_lex_Words
      intro _ _
      generalize hw : ([([70, 97, 108, 115, 101] : List UInt8), ([78, 111, 110, 101] : List UInt8), ([84, 114, 117, 101] : List UInt8), ([97, 110, 100] : List UInt8), ([98, 114, 101, 97, 107] : List UInt8), ([99, 111, 110, 116, 105, 110, 117, 101] : List UInt8), ([100, 101, 102] : List UInt8), ([101, 108, 105, 102] : List UInt8), ([101, 108, 115, 101] : List UInt8), ([102, 111, 114] : List UInt8), ([105, 102] : List UInt8), ([105, 110] : List UInt8), ([108, 111, 97, 100] : List UInt8), ([110, 111, 116] : List UInt8), ([111, 114] : List UInt8), ([112, 97, 115, 115] : List UInt8), ([114, 101, 116, 117, 114, 110] : List UInt8)] : List (List UInt8)) = W
      have hm : ([120] : List UInt8) ∉ W := by rw [← hw]; decide
      have hl : W.length = 17 := by rw [← hw]; rfl
      refine ⟨fun i => 0 ≤ i ∧ i ≤ 17, fun i => (17 - i).toNat, ⟨by omega, by omega⟩, fun i ⟨a0, a1⟩ => ⟨fun hlt => ⟨by omega, fun f => ?_, fun _ => ⟨by simp only [In]; omega, ⟨by omega, by omega⟩, by dsimp only; omega⟩⟩, fun _ => ?_⟩⟩
      · exact absurd (by rw [f]; exact getD_memB (by omega)) hm
      · rfl
    · rintro _ rfl
      exact h
theorem format_first {K : List UInt8 → Er → Prop} (h : K [49, 45, 50] .ok) : M_str_Format [123, 125, 45, 123, 120, 125] [[49]] [[120]] [[50]] K := by
  intro _ _ _
  have g1 : mget ([] : List (List UInt8 × List UInt8)) [120] = none := rfl
  have g2 : mput ([] : List (List UInt8 × List UInt8)) [120] [50] = [([120], [50])] := by decide
  have g3 : mget ([([120], [50])] : List (List UInt8 × List UInt8)) [120] = some [50] := by decide
  refine ⟨fun i m => (i = 0 ∧ m = []) ∨ (i = 1 ∧ m = [([120], [50])]), fun i _ => (2 - i).toNat, .inl ⟨rfl, rfl⟩, ?_⟩
  rintro i m (⟨rfl, rfl⟩ | ⟨rfl, rfl⟩)
  · refine ⟨fun _ => ⟨fun m => m = [([120], [50])], ⟨by decide, by decide, fun _ => ⟨by decide, by decide, ?_⟩, fun f => absurd f (by decide)⟩, ?_⟩, fun f => absurd (by decide) f⟩
    · exact g2
    · rintro _ rfl
      exact ⟨by simp only [In]; omega, .inr ⟨rfl, rfl⟩, by decide⟩
  refine ⟨fun f => absurd f (by decide), fun _ => ?_⟩
  refine ⟨fun i b n t bad => (i = 0 ∧ b = [] ∧ n = 0 ∧ t = false ∧ bad = false) ∨ (i = 2 ∧ b = [49] ∧ n = 1 ∧ t = false ∧ bad = false) ∨ (i = 3 ∧ b = [49, 45] ∧ n = 1 ∧ t = false ∧ bad = false) ∨ (i = 6 ∧ b = [49, 45, 50] ∧ n = 1 ∧ t = false ∧ bad = false), fun i _ _ _ _ => (6 - i).toNat, .inl ⟨rfl, rfl, rfl, rfl, rfl⟩, ?_⟩
  have pre : ∀ (s p : List UInt8) (K : Bool → Prop), K (decide (p.length ≤ s.length) && decide (s.take p.length = p)) → M_strings_HasPrefix s p K := fun s p K hK => by
    refine ⟨fun f => ?_, ?_⟩
    · rw [decide_eq_true_eq] at f; omega
    · rw [show decide ((p.length : Int) ≤ (s.length : Int)) = decide (p.length ≤ s.length) by congr 1; rw [eq_iff_iff]; omega]
      exact hK
  rintro i b n t bad (⟨rfl, rfl, rfl, rfl, rfl⟩ | ⟨rfl, rfl, rfl, rfl, rfl⟩ | ⟨rfl, rfl, rfl, rfl, rfl⟩ | ⟨rfl, rfl, rfl, rfl, rfl⟩)
  · refine ⟨fun _ => ⟨by decide, ?_⟩, fun f => absurd f (by decide)⟩
    intro _ _
    refine ⟨fun q => q = false, pre _ _ _ ⟨fun f => absurd f (by decide), fun _ => pre _ _ _ (by decide)⟩, ?_⟩
    rintro _ rfl
    refine ⟨fun f => (by cases f), fun _ => ⟨by decide, fun f => absurd f (by decide), fun _ => ⟨by decide, fun f => absurd (by decide) f, fun _ => ?_⟩⟩⟩
    refine ⟨fun f => absurd f (by decide), fun _ => ⟨by decide, ?_⟩⟩
    intro _ _
    refine ⟨fun _ => ?_, fun f => absurd (by decide) f⟩
    intro _ _
    refine ⟨fun f => absurd f (by decide), fun _ => ⟨by decide, by decide, ?_⟩⟩
    exact ⟨in_le (by decide), in_le (by decide), in_le (by decide), fun f => absurd f (by decide), fun _ => ⟨.inr (.inl ⟨by decide, by decide, by decide, rfl, rfl⟩), by decide⟩⟩
  · refine ⟨fun _ => ⟨by decide, ?_⟩, fun f => absurd f (by decide)⟩
    intro _ _
    refine ⟨fun q => q = false, pre _ _ _ ⟨fun f => absurd f (by decide), fun _ => pre _ _ _ (by decide)⟩, ?_⟩
    rintro _ rfl
    refine ⟨fun f => (by cases f), fun _ => ⟨by decide, fun f => absurd f (by decide), fun _ => ⟨by decide, fun _ => ⟨by decide, by decide, ?_⟩, fun f => absurd f (by decide)⟩⟩⟩
    exact ⟨in_le (by decide), fun f => absurd f (by decide), fun _ => ⟨.inr (.inr (.inl ⟨by decide, by decide, rfl, rfl, rfl⟩)), by decide⟩⟩
  · refine ⟨fun _ => ⟨by decide, ?_⟩, fun f => absurd f (by decide)⟩
    intro _ _
    refine ⟨fun q => q = false, pre _ _ _ ⟨fun f => absurd f (by decide), fun _ => pre _ _ _ (by decide)⟩, ?_⟩
    rintro _ rfl
    refine ⟨fun f => (by cases f), fun _ => ⟨by decide, fun f => absurd f (by decide), fun _ => ⟨by decide, fun f => absurd (by decide) f, fun _ => ?_⟩⟩⟩
    refine ⟨fun f => absurd f (by decide), fun _ => ⟨by decide, ?_⟩⟩
    intro _ _
    refine ⟨fun f => absurd f (by decide), fun _ => ?_⟩
    refine digits_M (by decide) ⟨fun f => absurd f (by decide), fun _ => ⟨by decide, fun q => q = false, ⟨fun f => absurd f (by decide), fun _ => ?_⟩, ?_⟩⟩
    · exact name_x rfl
    · rintro _ rfl
      refine ⟨by decide, ?_⟩
      exact ⟨in_le (by decide), in_le (by decide), fun f => absurd f (by decide), fun _ => ⟨.inr (.inr (.inr ⟨by decide, by decide, rfl, rfl, rfl⟩)), by decide⟩⟩
  · exact ⟨fun f => absurd f (by decide), fun _ => ⟨fun f => (by cases f), fun _ => h⟩⟩
theorem sfirst_M {K : Bool → Prop} (h : K true) : M_smithylaw11_first K := by
  have e1 : splP [97, 44, 98, 44, 44, 99] [44] 2 = ([[97], [98], [44, 99]], .ok) := by decide +kernel
  have e2 : cutP 5 (-2) 9 true true = (3, 5) := by decide +kernel
  refine split_M (by decide) (format_first (cut_M (by decide) (by decide) (by simp only [In]; omega) (by simp only [In]; omega) ?_))
  rw [e1, e2]
  refine ⟨fun q => q = true, ⟨fun _ => sameT_M (by decide) (by decide) (by decide), fun f => absurd f (by decide)⟩, ?_⟩
  rintro _ rfl
  exact h
theorem rstrip_prefix (p : UInt8 → Bool) (right : Bool) (s : List UInt8) : ∃ z, s = rstrip p right s ++ z := by
  unfold rstrip
  cases right with
  | false => exact ⟨[], by simp⟩
  | true =>
    refine ⟨(s.reverse.takeWhile p).reverse, ?_⟩
    simp only [if_true]
    rw [← List.reverse_append, List.takeWhile_append_dropWhile, List.reverse_reverse]
theorem lstrip_suffix (p : UInt8 → Bool) (left : Bool) (s : List UInt8) : ∃ y, s = y ++ lstrip p left s := by
  unfold lstrip
  cases left with
  | false => exact ⟨[], by simp⟩
  | true => exact ⟨s.takeWhile p, by simp⟩
theorem stripP_part (bytes : List UInt8) (left right : Bool) (s : List UInt8) : ∃ y z, s = y ++ stripP bytes left right s ++ z := by
  unfold stripP
  obtain ⟨y, hy⟩ := lstrip_suffix (stripSet bytes).contains left s
  obtain ⟨z, hz⟩ := rstrip_prefix (stripSet bytes).contains right (lstrip (stripSet bytes).contains left s)
  exact ⟨y, z, by rw [List.append_assoc, ← hz, ← hy]⟩
theorem lstrip_head (p : UInt8 → Bool) (s : List UInt8) : lstrip p true s = [] ∨ p ((lstrip p true s).getD 0 0) = false := by
  unfold lstrip
  simp only [if_true]
  induction s with
  | nil => exact .inl rfl
  | cons c s ih =>
    cases h : p c with
    | true => simpa [List.dropWhile_cons, h] using ih
    | false => right; simp [h]
theorem rstrip_head (p : UInt8 → Bool) (right : Bool) (s : List UInt8) : rstrip p right s = [] ∨ (rstrip p right s).getD 0 0 = s.getD 0 0 := by
  obtain ⟨z, hz⟩ := rstrip_prefix p right s
  cases h : rstrip p right s with
  | nil => exact .inl rfl
  | cons c t => right; rw [h] at hz; rw [hz]; rfl
end Go.Proofs.YtjinkmipkfjblaaDoor


 /- StrWords and StrSays, plainly. -/
namespace Go.Proofs.YtjinkmipkfjblaaDoor
open Go Go.RowKit
theorem wrd_word : ∀ (w cur t : List UInt8), (∀ c ∈ w, isBl c = false) → wrd cur (w ++ t) = wrd (cur ++ w) t
  | [], cur, t, _ => by simp
  | c :: w, cur, t, h => by
    have h1 := h c (by simp)
    rw [List.cons_append, wrd, h1, if_neg (by decide), wrd_word w _ t (fun x hx => h x (by simp [hx]))]
    simp
theorem wrd_end (cur t : List UInt8) (h : t = [] ∨ isBl (t.getD 0 0) = true) : wrd cur t = (if cur = [] then [] else [cur]) ++ wrd [] t := by
  cases t with
  | nil => simp [wrd]
  | cons c t =>
    have h1 : isBl c = true := by rcases h with h | h; cases h; exact h
    rw [wrd, wrd, if_pos h1, if_pos h1]; simp
theorem wrd_blanks : ∀ (b x : List UInt8), (∀ c ∈ b, isBl c = true) → wrd [] (b ++ x) = wrd [] x
  | [], x, _ => rfl
  | c :: b, x, h => by
    have h1 := h c (by simp)
    rw [List.cons_append, wrd, if_pos h1, wrd_blanks b x (fun y hy => h y (by simp [hy]))]
    simp
theorem words_join : ∀ (l : List (List UInt8)), (∀ x ∈ l, x ≠ [] ∧ ∀ c ∈ x, isBl c = false) → wordsP (Lib.join l [32]) = l
  | [], _ => rfl
  | x :: l, h => by
    have h1 := h x (by simp)
    by_cases hl : l = []
    · subst hl
      rw [Lib.join_one]
      have := wrd_word x [] [] h1.2
      rw [List.append_nil, List.nil_append] at this
      unfold wordsP
      rw [this, wrd, if_neg h1.1]
    · have ih := words_join l fun y hy => h y (by simp [hy])
      rw [join_two x _ l hl, List.append_assoc]
      unfold wordsP at ih ⊢
      rw [wrd_word x [] _ h1.2, List.nil_append, wrd_end x _ (.inr rfl), if_neg h1.1, wrd_blanks [32] _ (by decide), ih]
      rfl
theorem join_bound (n : Nat) (o : List UInt8) : ∀ l : List (List UInt8), (∀ x ∈ l, x.length ≤ n) → (Lib.join l o).length ≤ l.length * (n + o.length)
  | [], _ => by simp [Lib.join_nil]
  | x :: l, h => by
    have h1 := h x (by simp)
    have ih := join_bound n o l fun y hy => h y (by simp [hy])
    by_cases hl : l = []
    · subst hl
      rw [Lib.join_one]; simp only [List.length_cons, List.length_nil]; omega
    · rw [join_two x _ l hl]
      simp only [List.length_append, List.length_cons, Nat.add_mul]
      omega
theorem nonbl_is (c : UInt8) : (!decide ((c.toNat : Int) = (32 : Int)) && (decide ((c.toNat : Int) < (9 : Int)) || decide ((13 : Int) < (c.toNat : Int)))) = !isBl c := by
  have h : ∀ n : Fin 256, (!decide (((UInt8.ofNat n.val).toNat : Int) = (32 : Int)) && (decide (((UInt8.ofNat n.val).toNat : Int) < (9 : Int)) || decide ((13 : Int) < ((UInt8.ofNat n.val).toNat : Int)))) = !isBl (UInt8.ofNat n.val) := by decide +kernel
  have := h ⟨c.toNat, c.toNat_lt⟩
  simpa using this
theorem swords_ok {l : List (List UInt8)} {bl : List Int} {K : Bool → Prop} (_ : ∀ x ∈ l, x.length ≤ maxLen) (_ : ∀ x ∈ bl, (Lit.int .i64 x).wf = true) (H : K true) : M_smithylaw11_StrWords l bl K := by
  intro _ _
  refine sfirst_M ⟨fun h => (by cases h), fun _ => vtexts_MB (by decide) fun b hb => ⟨fun _ => H, fun h => ?_⟩⟩
  simp only [Bool.not_true, Bool.or_false, Bool.or_eq_false_iff, decide_eq_false_iff_not, Bool.not_eq_false'] at h
  obtain ⟨hl, hx⟩ := hb h.1
  refine ⟨fun s want i => 0 ≤ i ∧ i ≤ l.length ∧ (s.length : Int) ≤ i * 40 ∧ (want.length : Int) ≤ i ∧ (∀ x ∈ want, x.length ≤ 30 ∧ x ≠ [] ∧ ∀ c ∈ x, isBl c = false) ∧ ∀ t : List UInt8, (t = [] ∨ isBl (t.getD 0 0) = true) → wordsP (s ++ t) = want ++ wordsP t, fun _ _ i => l.length - i.toNat, ⟨by omega, by omega, by simp, by simp, fun x hx => by simp at hx, fun t _ => rfl⟩, fun s want i ⟨a0, a1, a2, a3, a4, a5⟩ => ⟨fun hlt => ?_, fun hge => ?_⟩⟩
  · refine ⟨fun s2 want2 => (s2.length : Int) ≤ (i + 1) * 40 ∧ (want2.length : Int) ≤ i + 1 ∧ (∀ x ∈ want2, x.length ≤ 30 ∧ x ≠ [] ∧ ∀ c ∈ x, isBl c = false) ∧ ∀ t : List UInt8, (t = [] ∨ isBl (t.getD 0 0) = true) → wordsP (s2 ++ t) = want2 ++ wordsP t, ⟨fun n => 1 ≤ n ∧ n ≤ 4, ⟨fun f => ⟨by omega, num_MB (by omega) (by omega) fun m m0 m1 => ⟨by simp only [In]; omega, by omega, by omega⟩⟩, fun _ => ⟨by omega, by omega⟩⟩, ?_⟩, ?_⟩
    · intro n hn
      have hnl : (([32, 9, 10, 13] : List UInt8).take n.toNat).length = n.toNat := by rw [List.length_take]; simp; omega
      refine ⟨⟨by omega, by simp; omega⟩, by omega, ?_⟩
      have hxi := hx _ (getD_memB (l := l) (k := i.toNat) (by omega))
      generalize l.getD i.toNat [] = x at *
      refine ⟨fun w k => 0 ≤ k ∧ k ≤ x.length ∧ (w.length : Int) ≤ k ∧ ∀ c ∈ w, isBl c = false, fun _ k => x.length - k.toNat, ⟨by omega, by omega, by simp, fun c hc => by simp at hc⟩, fun w k ⟨b0, b1, b2, b3⟩ => ⟨by omega, fun hk => ?_, fun hk => ?_⟩⟩
      · refine ⟨fun w2 => (w2.length : Int) ≤ k + 1 ∧ ∀ c ∈ w2, isBl c = false, ⟨by omega, by omega, fun f => ?_, fun f => ⟨by omega, b3⟩⟩, fun w2 ⟨c0, c1⟩ => ⟨by simp only [In]; omega, ⟨by omega, by omega, c0, c1⟩, by dsimp only; omega⟩⟩
        rw [nonbl_is, Bool.not_eq_true'] at f
        have hp : (x.drop k.toNat).take ((k + 1).toNat - k.toNat) = [x.getD k.toNat 0] := by
          rw [show (k + 1).toNat - k.toNat = 1 by omega, drop_isB (show k.toNat < x.length by omega)]; rfl
        rw [hp]
        refine ⟨by omega, by simp only [In]; omega, by omega, by simp only [List.length_singleton]; omega, by simp only [List.length_append, List.length_singleton]; omega, fun c hc => ?_⟩
        rcases List.mem_append.1 hc with hc | hc
        · exact b3 c hc
        · rw [List.mem_singleton.1 hc]; exact f
      · have hbl : ∀ c ∈ ([32, 9, 10, 13] : List UInt8).take n.toNat, isBl c = true := fun c hc => by
          have := List.mem_of_mem_take hc
          have hall : ∀ c ∈ ([32, 9, 10, 13] : List UInt8), isBl c = true := by decide
          exact hall c this
        have hstep : ∀ t : List UInt8, (t = [] ∨ isBl (t.getD 0 0) = true) → wordsP ((s ++ ([32, 9, 10, 13] : List UInt8).take n.toNat) ++ w ++ t) = want ++ ((if w = [] then [] else [w]) ++ wordsP t) := fun t ht => by
          rw [List.append_assoc, List.append_assoc, a5 _ (.inr ?_)]
          · congr 1
            unfold wordsP
            rw [wrd_blanks _ _ hbl, wrd_word w [] t b3, List.nil_append, wrd_end w t ht]
          · obtain ⟨m, hm⟩ : ∃ m, n.toNat = m + 1 := ⟨n.toNat - 1, by omega⟩
            rw [hm]; rfl
        refine ⟨by rw [List.length_append]; omega, fun f => ⟨by simp only [List.length_singleton]; omega, ?_, ?_, ?_, fun t ht => ?_⟩, fun f => ⟨?_, by omega, a4, fun t ht => ?_⟩⟩
        · rw [List.length_append, List.length_append]; omega
        · rw [List.length_append, List.length_singleton]; omega
        · intro y hy
          rcases List.mem_append.1 hy with hy | hy
          · exact a4 y hy
          · rw [List.mem_singleton.1 hy]; exact ⟨by omega, f, b3⟩
        · rw [hstep t ht, if_neg f, List.append_assoc]
        · rw [List.length_append, List.length_append]; omega
        · rw [hstep t ht, if_pos f]; rfl
    · intro s2 want2 ⟨c0, c1, c2, c3⟩
      exact ⟨by simp only [In]; omega, ⟨by omega, by omega, by omega, by omega, c2, c3⟩, by dsimp only; omega⟩
  · have hw : wordsP (s ++ [32, 32]) = want := by
      rw [a5 _ (.inr (by decide)), show wordsP [32, 32] = [] by decide, List.append_nil]
    have hjl := join_bound 30 [32] want fun x hx => (a4 x hx).1
    have hjl2 : want.length * (30 + ([32] : List UInt8).length) ≤ 12 * 31 := Nat.mul_le_mul (by omega) (by simp)
    refine ⟨by simp; omega, words_M (by simp; omega) ⟨by simp; omega, strip_M (by simp; omega) (join_M (by omega) (by decide) (fun x hx => by have := (a4 x hx).1; omega) ?_)⟩⟩
    have hj : joinP [32] want = (Lib.join want [32], .ok) := by unfold joinP; rw [if_neg (by omega)]
    rw [hj, hw]
    have ht : stripP [] true true (s ++ [32]) = [] ∨ isBl ((stripP [] true true (s ++ [32])).getD 0 0) = false := by
      unfold stripP
      rcases lstrip_head (stripSet []).contains (s ++ [32]) with e | e
      · rw [e]; exact .inl rfl
      · rcases rstrip_head (stripSet []).contains true (lstrip (stripSet []).contains true (s ++ [32])) with e2 | e2
        · exact .inl e2
        · right; rw [e2]; exact e
    obtain ⟨y, z, hyz⟩ := stripP_part [] true true (s ++ [32])
    have htl := congrArg List.length hyz
    simp only [List.length_append, List.length_singleton] at htl
    generalize stripP [] true true (s ++ [32]) = t at *
    have htp : decide (t = []) = false → 0 < t.length := fun e => List.length_pos_iff.2 (by simpa using e)
    refine ⟨fun q => q = true, ⟨fun _ => sameT_M (by omega) (by omega) (decide_eq_true rfl), fun f => by cases f⟩, ?_⟩
    rintro _ rfl
    have hcond : ((((decide (t = ([] : List UInt8))) || ((decide ((32 : Int) < ((t.getD 0 0).toNat : Int))) && (decide ((32 : Int) < ((t.getD ((t.length : Int) - (1 : Int)).toNat 0).toNat : Int))))) || (decide ((13 : Int) < ((t.getD 0 0).toNat : Int)))) || (decide (((t.getD 0 0).toNat : Int) < (9 : Int)))) = true := by
      rcases ht with e | e
      · rw [decide_eq_true e]; rfl
      · have h9 := nonbl_is (t.getD 0 0)
        rw [e, Bool.not_false, Bool.and_eq_true, Bool.or_eq_true] at h9
        rcases h9.2 with h8 | h8
        · rw [h8, Bool.or_true]
        · rw [h8, Bool.or_true, Bool.true_or]
    refine ⟨fun _ e => ?_, fun _ e _ => ?_, fun _ e _ => ?_, fun _ e => ?_, fun _ e => ?_, ?_⟩
    · have := htp e; omega
    · have := htp e; simp only [In]; omega
    · have := htp e; omega
    · rw [Bool.or_eq_false_iff] at e; have := htp e.1; omega
    · rw [Bool.or_eq_false_iff, Bool.or_eq_false_iff] at e; have := htp e.1.1; omega
    rw [hcond]
    refine ⟨fun q => q = true, ⟨fun _ => words_M (show (Lib.join want [32]).length ≤ 1000000 by omega) ?_, fun f => by cases f⟩, ?_⟩
    · rw [words_join want fun x hx => (a4 x hx).2]
      exact sameT_M (by omega) (by omega) (decide_eq_true rfl)
    rintro _ rfl
    exact H
end Go.Proofs.YtjinkmipkfjblaaDoor


 