/-
  The words of a program's head, read by their numbers: a long head costs the kernel little so.
-/
import Derived.Test.YtnaodjnimkndbaaSwM
import Derived.JoinedOf
namespace Go.Sw

def splitN : List Nat → List (List Nat)
  | [] => [[]]
  | c :: r => bif Nat.beq c 32 then [] :: splitN r else
    match splitN r with
    | w :: ws => (c :: w) :: ws
    | [] => [[c]]

theorem char_space : ∀ n : Nat, n < 128 → (Char.ofNat n = Char.ofNat 32 ↔ n = 32) := by decide

theorem wordsSigns_space (r : List Char) : wordsSigns (Char.ofNat 32 :: r) = [] :: wordsSigns r := rfl
theorem wordsSigns_other {c : Char} (h : c ≠ Char.ofNat 32) (r : List Char) : wordsSigns (c :: r) = match wordsSigns r with | w :: ws => (c :: w) :: ws | [] => [[c]] := by
  rw [wordsSigns]
  all_goals first | exact h | rfl

theorem words_split : ∀ l : List Nat, (l.all fun n => Nat.blt n 128) = true → wordsSigns (l.map Char.ofNat) = (splitN l).map (List.map Char.ofNat)
  | [], _ => rfl
  | c :: r, h => by
    simp only [List.all_cons, Bool.and_eq_true] at h
    have hc : c < 128 := Nat.le_of_ble_eq_true h.1
    have ih := words_split r h.2
    rw [List.map_cons, splitN]
    cases hb : Nat.beq c 32 with
    | true =>
      have := Nat.eq_of_beq_eq_true hb
      subst this
      rw [wordsSigns_space, ih]; rfl
    | false =>
      have hne : c ≠ 32 := Nat.ne_of_beq_eq_false hb
      rw [wordsSigns_other (fun e => hne ((char_space c hc).1 e)), ih, cond_false]
      cases splitN r <;> rfl

theorem head_words {P : Program} {codes : List Nat} {ws : List (List Nat)} (h1 : P.initOrder = String.ofList (codes.map Char.ofNat)) (h2 : (codes.all fun n => Nat.blt n 128) = true) (h3 : splitN codes = ws) :
    wordsSigns P.initOrder.toList = ws.map (List.map Char.ofNat) := by
  rw [h1, String.toList_ofList, words_split codes h2, h3]

theorem mayEnter_of {P : Program} {ws rest : List (List Char)} {c : List Char} (h : wordsSigns P.initOrder.toList = ws) (h1 : behindMainWord ws = c :: rest) (h2 : stripLifts liftWords (c :: rest) = ([], c :: rest)) (hc : c = "cut".toList)
    (hl : P.laysLater = false) (hr : P.bearsReflect = false) (hd : P.doorFits [] = true) : P.mayEnter = true := by
  unfold Program.mayEnter
  rw [h, h1]
  dsimp only
  rw [h2, hl, hr, hd, hc]
  simp

theorem liftsFinal_of {P : Program} {ws rest : List (List Char)} {c : List Char} (h : wordsSigns P.initOrder.toList = ws) (h1 : behindMainWord ws = c :: rest) (h2 : stripLifts liftWords (c :: rest) = ([], c :: rest)) (hc : c = "cut".toList) : P.liftsFinal = false := by
  unfold Program.liftsFinal Program.headLifts
  rw [h, h1]
  dsimp only
  rw [h2, hc]
  simp

theorem make_of {P : Program} {ws rest : List (List Char)} {c : List Char} (h : wordsSigns P.initOrder.toList = ws) (h1 : behindMainWord ws = c :: rest) (hc : c = "cut".toList) : P.make = some .cut := by
  unfold Program.make
  rw [h, h1]
  dsimp only
  rw [hc]
  simp

theorem joined_of {P : Program} {f : FuncId} {fn : Func} {s : ChangeSpec} {c : OpenClaim} (hm : P.mayEnter = true) (hl : P.liftsFinal = c.lifted) (hk : P.make = some c.make)
    (hA : (c.wf (OpenSpec.ofChange s) && laidOutB P && mapsRowed P && fn.params.all (P.readableRec ·) && namedTie P c.named s.vars && (c.stops == []) && (P.stops == []) && (c.knobs == []) && (P.stopKnobs == [])) = true)
    (hB1 : (c.inPlace == P.inPlace f) = true) (hB2 : (c.unfollowed == P.unfollowed f) = true) (hB3 : (c.recurses == P.recurses f) = true) (hB4 : (c.named == P.varsNamed f) = true)
    (hC1 : ((c.maps == (fn.params.toList ++ s.plain.varTypes P).any (P.mapsRec ·)) && (c.ifaces == (fn.params.toList ++ s.plain.varTypes P).any (P.ifacesRec ·)) && (c.mapsOut == P.mapsAmong fn.resultTypes.toList)) = true)
    (hC2 : ((c.loops == (fn.params.toList ++ s.plain.varTypes P).any (P.loopsFrom ·)) && (c.wideKeys == (fn.params.toList ++ s.plain.varTypes P ++ fn.resultTypes.toList).any (P.wideKeysFrom ·))) = true)
    (hC3 : (s.vars.all (P.varReadable ·) && fn.resultTypes.all (fun t => P.readableRec t && decide (t < P.types.size)) && (c.ifacesOut == fn.resultTypes.toList.any (P.ifacesRec ·)) && (c.loopsOut == fn.resultTypes.toList.any (P.loopsFrom ·))) = true)
    (hC4 : ((c.plainKeys == P.plainKeys) && c.shortTexts.isNone && P.stopsHeard) = true)
    (hD : ((c.kinds == (if c.domain.isEmpty then [] else fn.params.toList.map fun t => match P.underlying t with | some (.int k) => some k | _ => none)) && (c.pinned == c.pinnedBy) &&
      (c.veiled == (fn.params.toList ++ s.plain.varTypes P ++ fn.resultTypes.toList).any (P.veiledRec ·)) && c.veiledFits P fn.params.toList (fn.params.toList ++ s.plain.varTypes P ++ fn.resultTypes.toList)) = true) :
    joinedFacts P f fn s c = true := by
  have hk' : (P.make == some c.make) = true := by rw [hk]; simp
  have hl' : (c.lifted == P.liftsFinal) = true := by rw [hl]; simp
  simp only [Bool.and_eq_true] at hA hC1 hC2 hC3 hC4 hD
  unfold joinedFacts
  simp only [Bool.and_eq_true]
  exact ⟨⟨⟨⟨⟨⟨⟨⟨⟨⟨⟨⟨⟨⟨⟨⟨⟨⟨⟨⟨⟨⟨⟨⟨⟨⟨⟨⟨⟨⟨⟨hA.1.1.1.1.1.1.1.1, hA.1.1.1.1.1.1.1.2⟩, hA.1.1.1.1.1.1.2⟩, hA.1.1.1.1.1.2⟩, hA.1.1.1.1.2⟩, hA.1.1.1.2⟩, hA.1.1.2⟩, hA.1.2⟩, hA.2⟩, hB1⟩, hB2⟩, hB3⟩, hB4⟩, hC1.1.1⟩, hC1.1.2⟩, hC1.2⟩, hC2.1⟩, hC2.2⟩,
    hC3.1.1.1⟩, hC3.1.1.2⟩, hC3.1.2⟩, hC3.2⟩, hC4.1.1⟩, hC4.1.2⟩, hC4.2⟩, hm⟩, hl'⟩, hk'⟩, hD.1.1.1⟩, hD.1.1.2⟩, hD.1.2⟩, hD.2⟩
end Go.Sw
