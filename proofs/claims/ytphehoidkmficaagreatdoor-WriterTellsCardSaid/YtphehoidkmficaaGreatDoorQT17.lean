/- Contracts and laws that the statement of LawDataTells,LawWriterTells leans on (packed from this claim's own texts): part 17. -/
import Derived.Lib.Hide
import Derived.Test.YtphehoidkmficaaGreatDoorQT5
import Derived.Test.YtphehoidkmficaaGreatDoorQT7
import Derived.Test.YtphehoidkmficaaGreatDoorQT16
section

namespace Go.Proofs.YtphehoidkmficaaGreatDoor.Ref
open Go.RowKit Go.Proofs.YtphehoidkmficaaGreatDoor Go.Proofs.YtphehoidkmficaaGreatDoorW.PrintWords Go.Proofs.YtphehoidkmficaaGreatDoorW.PrintLast
set_option linter.unusedVariables false
structure Bl where
 e : Int
 s : ByteArray
 g : ByteArray
def noBl : Bl := ⟨0, ⟨#[]⟩, ⟨#[]⟩⟩
def sealF (k a : ByteArray) : ByteArray × Int := ofF (⟨#[115]⟩ : ByteArray) [k, a]
def signF (k a : ByteArray) : ByteArray × Int := ofF (⟨#[103]⟩ : ByteArray) [k, a]
def publicF (k : ByteArray) : ByteArray × Int := ofF (⟨#[117]⟩ : ByteArray) [k]
def verifyF (p a s : ByteArray) : Int :=
 if right p = true ∧ right a = true ∧ right s = true then
  (match termOf (bytes p) with
   | some (.one .u k) => if bytes s = 103 :: (enc k ++ bytes a) then 0 else 7
   | _ => 7) else 1
def unsealF (k c : ByteArray) : ByteArray × Int :=
 if right k = true then
  (match termOf (bytes c) with
   | none => (⟨#[]⟩, 1)
   | some (.two .s a b) => if tm a = k then (tm b, 0) else (⟨#[]⟩, 6)
   | some _ => (⟨#[]⟩, 2)) else (⟨#[]⟩, 1)
def wordsF (t : ByteArray) : ByteArray × Int := match termOf (bytes t) with | none => (⟨#[]⟩, 1) | some (.text s) => (ofBytes s, 0) | some _ => (⟨#[]⟩, 2)
def signedF (e : Int) (s : ByteArray) : ByteArray × Int := pairF (atomB e.toNat) s
def epochB (e : Int) : Bool := decide (0 ≤ e ∧ e ≤ 7)
def rightBl (b : Bl) : Bool := epochB b.e && (decide (kindF b.s = 115) && decide (kindF b.g = 103))
def builtF (e : Int) (k : ByteArray × Int) (p sg : ByteArray) : Bl × Int :=
 if k.2 = 0 then
  (if (sealF k.1 p).2 = 0 then
   (if (signedF e (sealF k.1 p).1).2 = 0 then
    (if (signF sg (signedF e (sealF k.1 p).1).1).2 = 0 then (⟨e, (sealF k.1 p).1, (signF sg (signedF e (sealF k.1 p).1).1).1⟩, 0)
     else (noBl, (signF sg (signedF e (sealF k.1 p).1).1).2))
    else (noBl, (signedF e (sealF k.1 p).1).2))
   else (noBl, (sealF k.1 p).2))
  else (noBl, k.2)
def bodyF (pa ct : ByteArray) : ByteArray := (pairF (textB pa) (textB ct)).1
def buildOk (st : ByteArray) (e : Int) (sg pa : ByteArray) : Bool := epochB e && (right st && (right sg && decide ((splitF pa).2.2 = 0)))
def buildF (st : ByteArray) (e : Int) (sg pa ct : ByteArray) : Bl × Int :=
 if buildOk st e sg pa = true then (if ct.size ≤ 64 then builtF e (keyF st) (bodyF pa ct) sg else (noBl, 10)) else (noBl, 1)
def putBl (b : Bl) : ByteArray × Int := if rightBl b = true then (allB [numB b.e.toNat, b.s, b.g], 0) else (⟨#[]⟩, 1)
def takenF (n : Int × ByteArray × Int) (s g : ByteArray) : Bl × Int :=
 if n.2.2 = 0 ∧ n.2.1 = ⟨#[]⟩ ∧ rightBl ⟨n.1, s, g⟩ = true then (⟨n.1, s, g⟩, 0) else (noBl, 2)
def takeBl (s : ByteArray) : Bl × Int :=
 if (takeAllF 3 4000 s).2 = 0 ∧ (takeAllF 3 4000 s).1.length = 3 then takenF (takeF ((takeAllF 3 4000 s).1.getD 0 ⟨#[]⟩)) ((takeAllF 3 4000 s).1.getD 1 ⟨#[]⟩) ((takeAllF 3 4000 s).1.getD 2 ⟨#[]⟩) else (noBl, 2)
def insideF (k s pa : ByteArray) : Option ByteArray :=
 match termOf (bytes s) with
 | some (.two .s a (.two .p (.text x) (.text y))) => if tm a = k ∧ ofBytes x = pa ∧ y.length ≤ 64 then some (ofBytes y) else none
 | _ => none
def openedF (b : Bl) (v st : ByteArray) (n : Int) (pa : ByteArray) : Option ByteArray :=
 if (signedF b.e b.s).2 = 0 ∧ verifyF v (signedF b.e b.s).1 b.g = 0 ∧ (backF st n).2 = 0 ∧ (keyF (backF st n).1).2 = 0 then insideF (keyF (backF st n).1).1 b.s pa else none
def openOk (b : Bl) (vs : List ByteArray) (st : ByteArray) (e : Int) : Bool := rightBl b && (right st && (epochB e && decide ((vs.length : Int) = e + 1)))
def openBl (b : Bl) (vs : List ByteArray) (st : ByteArray) (e : Int) (pa : ByteArray) : ByteArray × Int :=
 if openOk b vs st e = true then
  (if e < b.e then (⟨#[]⟩, 7) else match openedF b (vs.getD b.e.toNat ⟨#[]⟩) st (e - b.e) pa with | some c => (c, 0) | none => (⟨#[]⟩, 7))
 else (⟨#[]⟩, 1)
theorem wf_left {k : K2} {a b : T} (h : Wf (.two k a b)) : Wf a :=
 ⟨ok_mono (d := 39) h.1.1 (by omega), by have := h.2; simp only [enc, List.length_cons, List.length_append] at this; omega⟩
theorem wf_right {k : K2} {a b : T} (h : Wf (.two k a b)) : Wf b :=
 ⟨ok_mono (d := 39) h.1.2.1 (by omega), by have := h.2; simp only [enc, List.length_cons, List.length_append] at this; omega⟩
theorem wf_one {k : K1} {a : T} (h : Wf (.one k a)) : Wf a :=
 ⟨ok_mono (d := 39) (show ok 39 a from h.1) (by omega), by have := h.2; simp only [enc, List.length_cons] at this; omega⟩
theorem two_tm (k : K2) {a b : T} (hw : Wf (.two k a b)) : ofF (⟨#[k.code]⟩ : ByteArray) [tm a, tm b] = (tm (.two k a b), 0) := by
 have he : catB (⟨#[k.code]⟩ : ByteArray) [tm a, tm b] = tm (.two k a b) := bs_inj (by
  show bytes (((⟨#[k.code]⟩ : ByteArray) ++ tm a) ++ tm b) = _
  rw [bytes_append, bytes_append, bytes_tm, bytes_tm, bytes_tm]
  simp only [enc]
  rfl)
 unfold ofF
 rw [he, if_pos (by simp [right_tm (wf_left hw), right_tm (wf_right hw)]), if_pos (right_tm hw)]
theorem seal_tm {a b : T} (hw : Wf (.two .s a b)) : sealF (tm a) (tm b) = (tm (.two .s a b), 0) := two_tm .s hw
theorem sign_tm {a b : T} (hw : Wf (.two .g a b)) : signF (tm a) (tm b) = (tm (.two .g a b), 0) := two_tm .g hw
theorem public_tm {a : T} (hw : Wf (.one .u a)) : publicF (tm a) = (tm (.one .u a), 0) := by
 have he : catB (⟨#[117]⟩ : ByteArray) [tm a] = tm (.one .u a) := bs_inj (by
  show bytes ((⟨#[117]⟩ : ByteArray) ++ tm a) = _
  rw [bytes_append, bytes_tm, bytes_tm]
  rfl)
 unfold publicF ofF
 rw [he, if_pos (by simp [right_tm (wf_one hw)]), if_pos (right_tm hw)]
theorem tm_inj {a b : T} (ha : Wf a) (hb : Wf b) (h : tm a = tm b) : a = b :=
 enc_inj ha.1 hb.1 (by rw [← bytes_tm, ← bytes_tm, h])
theorem kind_tm {t : T} (h : Wf t) : kindF (tm t) = (t.code.toNat : Int) := by
 unfold kindF
 rw [bytes_tm, termOf_enc h]
theorem term_tm {t : T} (h : Wf t) : termOf (bytes (tm t)) = some t := by rw [bytes_tm, termOf_enc h]
theorem kind_sealed {s : ByteArray} (h : kindF s = 115) : ∃ a b, Wf (.two .s a b) ∧ s = tm (.two .s a b) := by
 have hr : right s = true := by
  cases hr : right s with
  | true => rfl
  | false => rw [(kindF_zero s).2 hr] at h; simp at h
 obtain ⟨t, hw, rfl⟩ := right_tm_of hr
 rw [kind_tm hw] at h
 cases t with
 | atom n => simp [T.code] at h
 | text n => simp [T.code] at h
 | one k a => cases k <;> simp [T.code, K1.code] at h
 | two k a b =>
  cases k with
  | s => exact ⟨a, b, hw, rfl⟩
  | p => simp [T.code, K2.code] at h
  | b => simp [T.code, K2.code] at h
  | g => simp [T.code, K2.code] at h
theorem verify_tm {k m g : T} (hp : Wf (.one .u k)) (hm : Wf m) (hg : Wf g) : verifyF (tm (.one .u k)) (tm m) (tm g) = if g = .two .g k m then 0 else 7 := by
 unfold verifyF
 rw [if_pos ⟨right_tm hp, right_tm hm, right_tm hg⟩, term_tm hp]
 simp only
 by_cases h : g = .two .g k m
 ·subst h
  rw [if_pos rfl, if_pos (by rw [bytes_tm, bytes_tm]; rfl)]
 ·rw [if_neg h, if_neg]
  intro e
  rw [bytes_tm, bytes_tm] at e
  have h1 : ok 41 (.two .g k m) := ⟨ok_mono (d := 39) (e := 40) hp.1 (by omega), hm.1, fun e => by simp at e⟩
  exact h (enc_inj (d := 41) (ok_mono hg.1 (by omega)) h1 e)
def rootB : ByteArray := ⟨#[114, 111, 111, 116]⟩
def signB : ByteArray := ⟨#[115, 105, 103, 110]⟩
def xB : ByteArray := ⟨#[120]⟩
def rT (n : Nat) : T := rootT rootB xB n
def sT (n : Nat) : T := rootT signB xB n
theorem rT_ok {n : Nat} (h : n < 1000) : ok 3 (rT n) ∧ (enc (rT n)).length ≤ 1100 :=
 ⟨rootT_ok rootB xB n (by decide) (by omega), rootT_len rootB xB n (by decide) (by omega)⟩
theorem sT_ok {n : Nat} (h : n < 1000) : ok 3 (sT n) ∧ (enc (sT n)).length ≤ 1100 :=
 ⟨rootT_ok signB xB n (by decide) (by omega), rootT_len signB xB n (by decide) (by omega)⟩
theorem sT_inj {m n : Nat} (hm : m < 1000) (hn : n < 1000) (h : sT m = sT n) : m = n := by
 unfold sT rootT at h
 simpa using h
def kT (r j : Nat) : T := keyT (hT j (rT r))
def bodyT (pa ct : Bs) : T := .two .p (.text pa) (.text ct)
def sealT (r j : Nat) (pa ct : Bs) : T := .two .s (kT r j) (bodyT pa ct)
def msgT (e r j : Nat) (pa ct : Bs) : T := .two .p (.atom e) (sealT r j pa ct)
def sigT (i e r j : Nat) (pa ct : Bs) : T := .two .g (sT i) (msgT e r j pa ct)
theorem hT_len {a b : Nat} {t : T} (h : hT a t = hT b t) : a = b := by
 have h1 := len_hT a t
 have h2 := len_hT b t
 rw [h] at h1; omega
theorem kT_inj {r a b : Nat} (h : kT r a = kT r b) : a = b := by
 unfold kT keyT at h
 simp only [T.one.injEq, T.two.injEq, true_and] at h
 exact hT_len h
theorem putT_len {l : Bs} (h : l.length < 18446744073709551616) : (putT l).length ≤ 9 + l.length := by
 unfold putT
 rw [List.length_append]
 have := putL_len (n := l.length) h
 omega
theorem kT_ok {r j : Nat} (hr : r < 1000) (hj : j ≤ 7) : ok 12 (kT r j) ∧ (enc (kT r j)).length ≤ 1130 := by
 obtain ⟨h1, h2⟩ := rT_ok hr
 have h3 := ok_hT j 3 (rT r) h1
 have h4 := len_hT j (rT r)
 have h5 : (bytes keyB).length = 3 := keyB_len
 have h6 := putT_len (l := bytes keyB) (by omega)
 refine ⟨⟨show (bytes keyB).length ≤ 4000 by omega, ok_mono (e := 10) h3 (by omega), fun e => by simp at e⟩, ?_⟩
 simp only [kT, keyT, enc, List.length_cons, List.length_append]; omega
theorem sealT_ok {r j : Nat} (hr : r < 1000) (hj : j ≤ 7) {pa ct : Bs} (hp : pa.length ≤ 300) (hc : ct.length ≤ 64) : ok 13 (sealT r j pa ct) ∧ (enc (sealT r j pa ct)).length ≤ 1520 := by
 obtain ⟨h1, h2⟩ := kT_ok hr hj
 have h3 := putT_len (l := pa) (by omega)
 have h4 := putT_len (l := ct) (by omega)
 refine ⟨⟨h1, ⟨show pa.length ≤ 4000 by omega, show ct.length ≤ 4000 by omega, fun e => by simp at e⟩, fun e => by simp at e⟩, ?_⟩
 simp only [sealT, bodyT, enc, List.length_cons, List.length_append]; omega
theorem msgT_ok {e r j : Nat} (he : e < 1000) (hr : r < 1000) (hj : j ≤ 7) {pa ct : Bs} (hp : pa.length ≤ 300) (hc : ct.length ≤ 64) : ok 14 (msgT e r j pa ct) ∧ (enc (msgT e r j pa ct)).length ≤ 1540 := by
 obtain ⟨h1, h2⟩ := sealT_ok hr hj hp hc
 have h3 := putL_len (n := e) (by omega)
 refine ⟨⟨show e < 18446744073709551616 by omega, h1, fun e => by simp at e⟩, ?_⟩
 simp only [msgT, enc, List.length_cons, List.length_append]; omega
theorem sigT_ok {i e r j : Nat} (hi : i < 1000) (he : e < 1000) (hr : r < 1000) (hj : j ≤ 7) {pa ct : Bs} (hp : pa.length ≤ 300) (hc : ct.length ≤ 64) : ok 15 (sigT i e r j pa ct) ∧ (enc (sigT i e r j pa ct)).length ≤ 2650 := by
 obtain ⟨h1, h2⟩ := msgT_ok he hr hj hp hc
 obtain ⟨h3, h4⟩ := sT_ok hi
 refine ⟨⟨ok_mono (e := 14) h3 (by omega), h1, fun e => by simp at e⟩, ?_⟩
 simp only [sigT, enc, List.length_cons, List.length_append]; omega
theorem wf_of {d : Nat} {t : T} {n : Nat} (h : ok d t ∧ (enc t).length ≤ n) (hd : d ≤ 40) (hn : n ≤ 4000) : Wf t := ⟨ok_mono h.1 hd, by omega⟩
theorem split_size {p : ByteArray} (h : (splitF p).2.2 = 0) : p.size ≤ 257 := by
 obtain ⟨h1, h2, h3⟩ := split_ok (p := p) (a := (splitF p).1) (b := (splitF p).2.1) (Prod.ext rfl (Prod.ext rfl h))
 have h4 := right_len h2
 have h5 := right_len h3
 rw [← bytes_length, h1, bytes_path, List.length_append, List.length_cons]; omega
theorem bodyF_tm {pa ct : ByteArray} (hp : pa.size ≤ 300) (hc : ct.size ≤ 64) : bodyF pa ct = tm (bodyT (bytes pa) (bytes ct)) ∧ pairF (textB pa) (textB ct) = (bodyF pa ct, 0) := by
 have hp' : (bytes pa).length ≤ 300 := by rw [bytes_length]; exact hp
 have hc' : (bytes ct).length ≤ 64 := by rw [bytes_length]; exact hc
 have hw : Wf (bodyT (bytes pa) (bytes ct)) := wf_right (wf_of (sealT_ok (r := 0) (j := 0) (by omega) (by omega) hp' hc') (by omega) (by omega))
 have h := pair_tm hw
 unfold bodyF
 rw [textB_tm, textB_tm, h]
 exact ⟨rfl, rfl⟩
theorem signed_tm {e : Nat} {t : T} (hw : Wf (.two .p (.atom e) t)) : signedF (e : Int) (tm t) = (tm (.two .p (.atom e) t), 0) := by
 unfold signedF
 rw [Int.toNat_natCast, atomB_tm, pair_tm hw]
theorem back_state {r j n : Nat} (hr : r < 1000) (hj : j + n ≤ 20) : backF (tm (hT j (rT r))) (n : Int) = (tm (hT (j + n) (rT r)), 0) := by
 obtain ⟨h1, h2⟩ := rT_ok hr
 rw [back_tm n (3 + j) (hT j (rT r)) (ok_hT j 3 (rT r) h1) (by omega) (by rw [len_hT]; omega), hT_hT]
theorem key_state {r j : Nat} (hr : r < 1000) (hj : j ≤ 20) : keyF (tm (hT j (rT r))) = (tm (kT r j), 0) := by
 obtain ⟨h1, h2⟩ := rT_ok hr
 exact key_tm (3 + j) (hT j (rT r)) (ok_hT j 3 (rT r) h1) (by omega) (by omega) (by rw [len_hT]; omega)
theorem right_state {r j : Nat} (hr : r < 1000) (hj : j ≤ 20) : right (tm (hT j (rT r))) = true := by
 obtain ⟨h1, h2⟩ := rT_ok hr
 exact right_tm ⟨ok_mono (ok_hT j 3 (rT r) h1) (by omega), by rw [len_hT]; omega⟩
theorem right_sign {i : Nat} (hi : i < 1000) : right (tm (sT i)) = true := right_tm (wf_of (sT_ok hi) (by omega) (by omega))
def blT (i e r j : Nat) (pa ct : Bs) : Bl := ⟨(e : Int), tm (sealT r j pa ct), tm (sigT i e r j pa ct)⟩
theorem build_tm {i e r j : Nat} (hi : i < 1000) (he : e ≤ 7) (hr : r < 1000) (hj : j ≤ 7) {pa ct : ByteArray} (hp : (splitF pa).2.2 = 0) (hc : ct.size ≤ 64) :
  buildF (tm (hT j (rT r))) (e : Int) (tm (sT i)) pa ct = (blT i e r j (bytes pa) (bytes ct), 0) := by
 have hps := split_size hp
 have hp' : (bytes pa).length ≤ 300 := by rw [bytes_length]; omega
 have hc' : (bytes ct).length ≤ 64 := by rw [bytes_length]; exact hc
 have w1 := wf_of (sealT_ok hr hj hp' hc') (by omega) (by omega)
 have w2 := wf_of (msgT_ok (e := e) (by omega) hr hj hp' hc') (by omega) (by omega)
 have w3 := wf_of (sigT_ok (i := i) (e := e) hi (by omega) hr hj hp' hc') (by omega) (by omega)
 unfold buildF buildOk epochB
 rw [right_state hr (by omega), right_sign hi, hp, if_pos (by simp; omega), if_pos hc, key_state hr (by omega), (bodyF_tm (pa := pa) (ct := ct) (by omega) hc).1]
 have s1 : sealF (tm (kT r j)) (tm (bodyT (bytes pa) (bytes ct))) = (tm (sealT r j (bytes pa) (bytes ct)), 0) := seal_tm w1
 have s2 : signedF (e : Int) (tm (sealT r j (bytes pa) (bytes ct))) = (tm (msgT e r j (bytes pa) (bytes ct)), 0) := signed_tm w2
 have s3 : signF (tm (sT i)) (tm (msgT e r j (bytes pa) (bytes ct))) = (tm (sigT i e r j (bytes pa) (bytes ct)), 0) := sign_tm w3
 unfold builtF
 simp only [s1, s2, s3, if_true]
 rfl
theorem build_bad {st sg pa ct : ByteArray} {e : Int} (h : buildOk st e sg pa = false) : buildF st e sg pa ct = (noBl, 1) := by
 unfold buildF; rw [h, if_neg (by simp)]
theorem rightBl_tm {i e r j : Nat} (hi : i < 1000) (e' : Nat) (he : e' ≤ 7) (hee : e < 1000) (hr : r < 1000) (hj : j ≤ 7) {pa ct : Bs} (hp : pa.length ≤ 300) (hc : ct.length ≤ 64) :
  rightBl ⟨(e' : Int), tm (sealT r j pa ct), tm (sigT i e r j pa ct)⟩ = true := by
 have w1 := wf_of (sealT_ok hr hj hp hc) (by omega) (by omega)
 have w3 := wf_of (sigT_ok (i := i) (e := e) hi hee hr hj hp hc) (by omega) (by omega)
 unfold rightBl epochB
 rw [kind_tm w1, kind_tm w3]
 simp [sealT, sigT, T.code, K2.code]
 omega
def pubs (n : Nat) : List ByteArray := (List.range n).map fun i => tm (.one .u (sT i))
theorem pubs_len (n : Nat) : (pubs n).length = n := by simp [pubs]
theorem pubs_getD {n k : Nat} (h : k < n) : (pubs n).getD k ⟨#[]⟩ = tm (.one .u (sT k)) := by
 rw [List.getD_eq_getElem?_getD]; simp [pubs, h]
theorem pub_ok {i : Nat} (hi : i < 1000) : Wf (.one .u (sT i)) := by
 obtain ⟨h1, h2⟩ := sT_ok hi
 exact ⟨ok_mono (d := 4) h1 (by omega), by simp only [enc, List.length_cons]; omega⟩
theorem opened_tm {i e e' i' r j m n : Nat} (hi : i < 1000) (hi' : i' < 1000) (he : e ≤ 7) (he' : e' ≤ 7) (hr : r < 1000) (hj : j ≤ 7) (hmn : m + n ≤ 20) {pa ct : Bs} {pa' : ByteArray} (hp : pa.length ≤ 300) (hc : ct.length ≤ 64) :
  openedF ⟨(e' : Int), tm (sealT r j pa ct), tm (sigT i e r j pa ct)⟩ (tm (.one .u (sT i'))) (tm (hT m (rT r))) (n : Int) pa' = if e = e' ∧ i = i' ∧ m + n = j ∧ ofBytes pa = pa' then some (ofBytes ct) else none := by
 have w1 := wf_of (sealT_ok hr hj hp hc) (by omega) (by omega)
 have w2 := wf_of (msgT_ok (e := e') (by omega) hr hj hp hc) (by omega) (by omega)
 have w3 := wf_of (sigT_ok (i := i) (e := e) hi (by omega) hr hj hp hc) (by omega) (by omega)
 have s2 : signedF (e' : Int) (tm (sealT r j pa ct)) = (tm (msgT e' r j pa ct), 0) := signed_tm w2
 have hv : verifyF (tm (.one .u (sT i'))) (tm (msgT e' r j pa ct)) (tm (sigT i e r j pa ct)) = _ := verify_tm (pub_ok hi') w2 w3
 have hin : insideF (tm (kT r (m + n))) (tm (sealT r j pa ct)) pa' = if tm (kT r j) = tm (kT r (m + n)) ∧ ofBytes pa = pa' ∧ ct.length ≤ 64 then some (ofBytes ct) else none := by
  unfold insideF
  rw [term_tm w1]
  rfl
 unfold openedF
 by_cases h1 : sigT i e r j pa ct = .two .g (sT i') (msgT e' r j pa ct)
 ·have h1' := h1
  unfold sigT msgT at h1'
  simp only [T.two.injEq, T.atom.injEq, true_and, and_true] at h1'
  have hii := sT_inj hi hi' h1'.1
  rw [if_pos h1] at hv
  simp only [s2, hv, back_state hr hmn, key_state hr hmn, and_self, if_true, hin]
  by_cases h2 : m + n = j
  ·by_cases h3 : ofBytes pa = pa'
   ·rw [if_pos ⟨by rw [h2], h3, hc⟩, if_pos ⟨h1'.2, hii, h2, h3⟩]
   ·rw [if_neg (fun h => h3 h.2.1), if_neg (fun h => h3 h.2.2.2)]
  ·rw [if_neg (fun h => ?_), if_neg (fun h => h2 h.2.2.1)]
   have hk : Wf (kT r (m + n)) := by
    obtain ⟨g1, g2⟩ := rT_ok hr
    have g3 := ok_hT (m + n) 3 (rT r) g1
    have g4 := len_hT (m + n) (rT r)
    have g5 : (bytes keyB).length = 3 := keyB_len
    have g6 := putT_len (l := bytes keyB) (by omega)
    refine ⟨ok_mono (d := 3 + (m + n) + 2) ⟨by rw [show 3 + (m + n) = (2 + (m + n)) + 1 from by omega]; exact (show (bytes keyB).length ≤ 4000 by omega), g3, fun e => by simp at e⟩ (by omega), ?_⟩
    simp only [kT, keyT, enc, List.length_cons, List.length_append]; omega
   exact h2 (kT_inj (tm_inj (wf_left w1) hk h.1)).symm
 ·rw [if_neg h1] at hv
  simp only [s2, hv]
  rw [if_neg (fun h => by simp at h), if_neg]
  rintro ⟨rfl, rfl, h, h'⟩
  exact h1 rfl
theorem open_tm {i e e' i' r j m y : Nat} (hi : i < 1000) (hi' : i' < 1000) (he : e ≤ 7) (he' : e' ≤ 7) (hy : y ≤ 7) (hr : r < 1000) (hj : j ≤ 7) (hm : m ≤ 7) {pa ct : Bs} {pa' : ByteArray} (hp : pa.length ≤ 300) (hc : ct.length ≤ 64)
  {vs : List ByteArray} (hv : vs.length = y + 1) (hvi : vs.getD e' ⟨#[]⟩ = tm (.one .u (sT i'))) :
  openBl ⟨(e' : Int), tm (sealT r j pa ct), tm (sigT i e r j pa ct)⟩ vs (tm (hT m (rT r))) (y : Int) pa' = if e' ≤ y ∧ e = e' ∧ i = i' ∧ m + (y - e') = j ∧ ofBytes pa = pa' then (ofBytes ct, 0) else (⟨#[]⟩, 7) := by
 unfold openBl openOk epochB
 rw [rightBl_tm hi e' he' (by omega) hr hj hp hc, right_state hr (by omega), hv, if_pos (by simp; omega)]
 simp only [Int.toNat_natCast]
 by_cases h : e' ≤ y
 ·rw [if_neg (by omega), hvi, show ((y : Int) - (e' : Int)) = ((y - e' : Nat) : Int) from by omega, opened_tm hi hi' he he' hr hj (by omega) hp hc]
  by_cases h2 : e = e' ∧ i = i' ∧ m + (y - e') = j ∧ ofBytes pa = pa'
  ·rw [if_pos h2, if_pos ⟨h, h2⟩]
  ·rw [if_neg h2, if_neg (fun g => h2 g.2)]
 ·rw [if_pos (by omega), if_neg (fun g => h g.1)]
theorem take_num {n : Nat} (h : n < 18446744073709551616) : takeF (numB n) = ((n : Int), ⟨#[]⟩, 0) := by
 have := take_put (n := n) (r := []) h
 rw [List.append_nil] at this
 unfold takeF numB
 rw [bytes_ofBytes, this]
 rfl
theorem right_kind {s : ByteArray} {k : Int} (h : kindF s = k) (hk : k ≠ 0) : s.size ≤ 4000 := by
 refine right_size ?_
 cases hr : right s with
 | true => rfl
 | false => rw [(kindF_zero s).2 hr] at h; exact absurd h.symm hk
theorem rightBl_inv {b : Bl} (h : rightBl b = true) : (0 ≤ b.e ∧ b.e ≤ 7) ∧ kindF b.s = 115 ∧ kindF b.g = 103 := by
 unfold rightBl epochB at h
 simpa using h
theorem take_put_bl {b : Bl} (h : rightBl b = true) : takeBl (putBl b).1 = (b, 0) ∧ (putBl b).2 = 0 := by
 obtain ⟨h1, h2, h3⟩ := rightBl_inv h
 have h4 := right_kind h2 (by decide)
 have h5 := right_kind h3 (by decide)
 have h6 := size_numB (n := b.e.toNat) (by omega)
 unfold putBl
 rw [if_pos h]
 refine ⟨?_, rfl⟩
 unfold takeBl
 simp only
 rw [takeAll_put (many := 3) (most := 4000) (by omega) (by omega) (by simp) (by intro s hs; simp at hs; rcases hs with rfl | rfl | rfl <;> omega), if_pos ⟨rfl, rfl⟩]
 simp only [List.getD_cons_zero, List.getD_cons_succ]
 rw [take_num (by omega)]
 unfold takenF
 simp only
 rw [Int.toNat_of_nonneg h1.1, if_pos ⟨trivial, trivial, h⟩]
theorem three_of {l : List ByteArray} (h : l.length = 3) : ∃ x y z, l = [x, y, z] := by
 match l, h with
 | [x, y, z], _ => exact ⟨x, y, z, rfl⟩
theorem take_bl_inv {s : ByteArray} (h : (takeBl s).2 = 0) : rightBl (takeBl s).1 = true ∧ (putBl (takeBl s).1).1 = s := by
 unfold takeBl at h ⊢
 by_cases h0 : (takeAllF 3 4000 s).2 = 0 ∧ (takeAllF 3 4000 s).1.length = 3
 ·rw [if_pos h0] at h ⊢
  obtain ⟨x, y, z, hl⟩ := three_of h0.2
  obtain ⟨g1, g2, g3⟩ := takeAll_inv (Prod.ext hl h0.1 : takeAllF 3 4000 s = ([x, y, z], 0))
  rw [hl] at h ⊢
  simp only [List.getD_cons_zero, List.getD_cons_succ] at h ⊢
  unfold takenF at h ⊢
  by_cases hc : (takeF x).2.2 = 0 ∧ (takeF x).2.1 = ⟨#[]⟩ ∧ rightBl ⟨(takeF x).1, y, z⟩ = true
  ·rw [if_pos hc]
   refine ⟨hc.2.2, ?_⟩
   unfold putBl
   rw [if_pos hc.2.2]
   simp only
   rw [g1]
   have hx : numB (takeF x).1.toNat = x := by
    obtain ⟨c1, c2, c3⟩ := hc
    unfold takeF at c1 c2 ⊢
    cases hl : takeL (bytes x) with
    | none => rw [hl] at c1; simp at c1
    | some w =>
     obtain ⟨n, r⟩ := w
     rw [hl] at c2
     simp only at c2 ⊢
     have hr : r = [] := by rw [← bytes_ofBytes r, c2]; rfl
     have hi := (take_inv hl).1
     rw [hr, List.append_nil] at hi
     refine bs_inj ?_
     unfold numB
     rw [bytes_ofBytes, hi, Int.toNat_natCast]
   rw [hx]
  ·rw [if_neg hc] at h; simp at h
 ·rw [if_neg h0] at h; simp at h
theorem take_bl_codes (s : ByteArray) : (takeBl s).2 = 0 ∨ takeBl s = (noBl, 2) := by
 unfold takeBl
 split
 ·unfold takenF
  split
  ·exact Or.inl rfl
  ·exact Or.inr rfl
 ·exact Or.inr rfl
end Go.Proofs.YtphehoidkmficaaGreatDoor.Ref
end
section

namespace Go.Proofs.YtphehoidkmficaaGreatDoor
open Go.RowKit Go.Proofs.YtphehoidkmficaaGreatDoorW.PrintWords Go.Proofs.YtphehoidkmficaaGreatDoorW.PrintLast Go.Proofs.YtphehoidkmficaaGreatDoor.Ref
set_option linter.unusedVariables false
set_option linter.unusedSimpArgs false
theorem keep {B P : Nat} {w W : World} {o : Obj} (h : Moved (· = B) w W) (hP : w.heap[P]? = some o) (hn : P ≠ B) : W.heap[P]? = some o := by
 rw [h.block P (by rw [Array.getElem?_eq_some_iff] at hP; exact hP.1) hn]; exact hP
theorem blk_below {b : Nat} {w W : World} {o : Obj} (h : w.heap[b]? = some o) (hb : Below w.heap.size w W) : W.heap[b]? = some o := by
 rw [hb.block b (by rw [Array.getElem?_eq_some_iff] at h; exact h.1)]; exact h
def bd1.T0 : Bool × List (List Nat × List Nat) := (true, [([], []), ([0], [0]), ([1], [1]), ([1], [1]), ([2, 3, 1], [2, 3]), ([], []), ([5, 4], [5]), ([6], [6]), ([6], [6]), ([7, 8, 6], [7, 8]), ([4, 9, 9], [4, 9]), ([10], [10]), ([10], [10]), ([11, 12, 10], [11, 12]), ([13, 13, 0, 1, 2, 3, 4, 5, 6, 7, 8, 9, 10, 11, 12, 13], [13])])
def bd1.B0 : List Nat := [0, 1, 3, 3, 15, 0, 63, 127, 127, 511, 1023, 2047, 2047, 8191, 16383]
theorem bd1.tab0 : rtab .any (opsOf Tryz.f48 0) = bd1.T0 := by kernel_rfl
theorem bd1.bits0 : waitsOk bd1.T0.2 bd1.B0 = true := by kernel_rfl
def bd1.T2 : Bool × List (List Nat × List Nat) := (true, [([], []), ([], []), ([], []), ([2], [2]), ([1, 3], [1, 3]), ([0, 4, 4], [0, 4]), ([5], [5]), ([5], [5]), ([6, 7, 5], [6, 7]), ([0, 1, 2, 3, 4, 5, 6, 7, 8], []), ([9, 8, 8, 0, 1, 2, 3, 4, 5, 6, 7, 8], [8, 9])])
def bd1.B2 : List Nat := [0, 0, 0, 4, 14, 31, 63, 63, 255, 511, 1023]
theorem bd1.tab2 : rtab .any (opsOf Tryz.f48 2) = bd1.T2 := by kernel_rfl
theorem bd1.bits2 : waitsOk bd1.T2.2 bd1.B2 = true := by kernel_rfl
def B1Post (w : World) (B : Nat) (e0 : Int) (R : Bl × Int) (e : Ending) (w' : World) : Prop :=
 (R.2 = 0 ∧ e = .returned (.tuple #[]) ∨ R.2 ≠ 0 ∧ e = .panicked (failed R.2)) ∧ (R.2 = 0 → w'.heap[B]? = some (.cells #[.int .i64 e0, .string R.1.s, .string R.1.g] 23 (0, 0))) ∧ Moved (· = B) w w'
abbrev Tells (fn : FuncId) (args : Array Value) (r : ByteArray × Int) : Prop := ∀ W : World, Calls Tryz.prog fn args W fun e w' => e = .returned (.tuple #[.string r.1, .int .i64 r.2]) ∧ Below W.heap.size W w'
set_option maxRecDepth 100000 in
set_option maxHeartbeats 2000000 in
theorem build1_walk {P C St B G Ep : Nat} {pa ct st sg tp tc bp : ByteArray} {e0 : Int} {Ky Se M X : ByteArray × Int} {R : Bl × Int} (w : World)
  (hP : w.heap[P]? = some (.cells #[.string pa] 9 (0, 0))) (hC : w.heap[C]? = some (.cells #[.string ct] 9 (0, 0))) (hS : w.heap[St]? = some (.cells #[.string st] 9 (0, 0)))
  (hB : w.heap[B]? = some (.cells #[.int .i64 e0, .string ⟨#[]⟩, .string ⟨#[]⟩] 23 (0, 0))) (hG : w.heap[G]? = some (.cells #[.string sg] 9 (0, 0))) (hE : w.heap[Ep]? = some (.cells #[.int .i64 e0] 3 (0, 0)))
  (nP : P ≠ B) (nC : C ≠ B) (nS : St ≠ B) (nG : G ≠ B) (nE : Ep ≠ B)
  (hT1 : Tells 51 #[.string pa] (tp, 0)) (hT2 : Tells 51 #[.string ct] (tc, 0)) (hPR : Tells 50 #[.string tp, .string tc] (bp, 0))
  (hKy : Tells 53 #[.string st] Ky) (hSe : Tells 52 #[.string Ky.1, .string bp] Se)
  (hSO : ∀ W : World, M.2 = 0 → Calls Tryz.prog 55 #[.int .i64 e0, .string Se.1] W fun e w' => e = .returned (.string M.1) ∧ Below W.heap.size W w')
  (hSE : ∀ W : World, M.2 ≠ 0 → Calls Tryz.prog 55 #[.int .i64 e0, .string Se.1] W fun e w' => e = .panicked (failed M.2) ∧ Below W.heap.size W w')
  (hSG : Tells 54 #[.string sg, .string M.1] X)
  (hR : R = if Ky.2 = 0 then (if Se.2 = 0 then (if M.2 = 0 then (if X.2 = 0 then (⟨e0, Se.1, X.1⟩, 0) else (noBl, X.2)) else (noBl, M.2)) else (noBl, Se.2)) else (noBl, Ky.2)) :
  Calls Tryz.prog 48 #[.pointer (some ⟨P, 0, none⟩), .pointer (some ⟨C, 0, none⟩), .pointer (some ⟨St, 0, none⟩), .pointer (some ⟨B, 0, none⟩), .pointer (some ⟨G, 0, none⟩), .pointer (some ⟨Ep, 0, none⟩)] w (B1Post w B e0 R) := by
 have HP := Lib.hid hP
 have HC := Lib.hid hC
 have HS := Lib.hid hS
 have HB := Lib.hid hB
 have HG := Lib.hid hG
 have HE := Lib.hid hE
 have HT1 := Lib.hid hT1
 have HT2 := Lib.hid hT2
 have HPR := Lib.hid hPR
 have HKy := Lib.hid hKy
 have HSe := Lib.hid hSe
 have HSO := Lib.hid hSO
 have HSE := Lib.hid hSE
 have HSG := Lib.hid hSG
 have HR := Lib.hid hR
 have HM := Lib.hid (Moved.refl (· = B) w)
 clear hP hC hS hB hG hE hT1 hT2 hPR hKy hSe hSO hSE hSG hR
 go_enter Tryz.func48, Tryz.ntmps48
 go_wp2_with fail
 have hb : Below w.heap.size w w.drew := below_drew (Below.refl _ _)
 replace HB := Lib.hid (blk_below HB.out hb)
 replace HM := Lib.hid (HM.out.trans (Moved.of_below hb))
 clear hb
 refine start_ (n := 15) (S := fun w' => w'.cell? ⟨P, 0, none⟩ = some (.string pa) ∧ w'.cell? ⟨C, 0, none⟩ = some (.string ct)) (ds := []) #[false, false, false, false, false, false, false, false, false, false, false, false, false, false, false] (by kernel_rfl) rfl rfl ⟨(cell_of_blk (keep HM.out HP.out nP) rfl), (cell_of_blk (keep HM.out HC.out nC) rfl)⟩ (fun hHeld => ?_)
 refine with_tabW bd1.tab0 bd1.bits0 (fun HT_ HW_ => ?_)
 refine take_ (i := 0) (N := some 7) (v := ?_) (a' := ?_) #[true, false, false, false, false, false, false, false, false, false, false, false, false, false, false] rfl rfl (take_ofW HT_.out HW_.out (by kernel_rfl)) (fun _ _ _ h => h) (Or.inl ⟨by rfl, ?_⟩) hHeld ?_ ?_
 rotate_left
 ·rintro w' ⟨s0, s1⟩
  go_simp
  with_reducible rfl
 rotate_left
 ·simp only [Act.put, List.setIfInBounds_toArray, List.set_cons_zero, List.set_cons_succ, i64_w, i32_w]
  rfl
 refine take_ (i := 5) (N := some 12) (v := ?_) (a' := ?_) #[true, false, false, false, false, true, false, false, false, false, false, false, false, false, false] rfl rfl (take_ofW HT_.out HW_.out (by kernel_rfl)) (fun _ _ _ h => h) (Or.inl ⟨by rfl, ?_⟩) hHeld ?_ ?_
 rotate_left
 ·rintro w' ⟨s0, s1⟩
  go_simp
  with_reducible rfl
 rotate_left
 ·simp only [Act.put, List.setIfInBounds_toArray, List.set_cons_zero, List.set_cons_succ, i64_w, i32_w]
  rfl
 refine one_ (i := 1) (N := some 8) #[true, true, false, false, false, true, false, false, false, false, false, false, false, false, false] rfl rfl (one_of HT_.out (by kernel_rfl)) (by decide) (fun K hK => ?_)
 refine goes_ Tryz.func51 (by kernel_rfl) rfl #[.string pa] (by rfl) rfl rfl (by simp only [List.map_toArray, List.map_cons, List.map_nil]; rfl) ?_
 with_reducible refine (HT1.out _).mono ?_
 rintro e w1 ⟨rfl, hb⟩
 refine ⟨_, rfl, ?_⟩
 replace HB := Lib.hid (blk_below HB.out hb)
 replace HM := Lib.hid (HM.out.trans (Moved.of_below hb))
 clear hb
 refine hK.out _ _ ⟨(cell_of_blk (keep HM.out HP.out nP) rfl), (cell_of_blk (keep HM.out HC.out nC) rfl)⟩ (fun hHeld => ?_)
 clear hK K
 refine norm_ (a' := ?_) ?_ ?_
 rotate_left
 ·show Act.put _ (some 8) _ = _
  simp only [Act.put, List.setIfInBounds_toArray, List.set_cons_zero, List.set_cons_succ, i64_w, i32_w]
  rfl
 refine pure_ (i := 2) (N := some 9) (v := ?_) (a' := ?_) #[true, true, true, false, false, true, false, false, false, false, false, false, false, false, false] rfl rfl (any_of HT_.out (by kernel_rfl)) (fun _ _ _ h => h) (Or.inl ⟨by rfl, ?_⟩) ?_ ?_
 rotate_left
 ·intro w'
  go_simp
  with_reducible rfl
 rotate_left
 ·simp only [Act.put, List.setIfInBounds_toArray, List.set_cons_zero, List.set_cons_succ, i64_w, i32_w]
  rfl
 refine pure_ (i := 3) (N := some 10) (v := ?_) (a' := ?_) #[true, true, true, true, false, true, false, false, false, false, false, false, false, false, false] rfl rfl (any_of HT_.out (by kernel_rfl)) (fun _ _ _ h => h) (Or.inl ⟨by rfl, ?_⟩) ?_ ?_
 rotate_left
 ·intro w'
  go_simp
  with_reducible rfl
 rotate_left
 ·simp only [Act.put, List.setIfInBounds_toArray, List.set_cons_zero, List.set_cons_succ, i64_w, i32_w]
  rfl
 refine one_ (i := 4) (N := some 11) #[true, true, true, true, true, true, false, false, false, false, false, false, false, false, false] rfl rfl (one_of HT_.out (by kernel_rfl)) (by decide) (fun K hK => ?_)
 refine goes_ Tryz.func49 (by kernel_rfl) rfl #[.string tp, .int .i64 0] (by rfl) rfl rfl (by simp only [List.map_toArray, List.map_cons, List.map_nil]; rfl) ?_
 with_reducible refine (must_ok _ _).mono ?_
 rintro e w2 ⟨rfl, rfl⟩
 refine ⟨_, rfl, ?_⟩
 refine hK.out _ _ ⟨(cell_of_blk (keep HM.out HP.out nP) rfl), (cell_of_blk (keep HM.out HC.out nC) rfl)⟩ (fun hHeld => ?_)
 clear hK K
 refine norm_ (a' := ?_) ?_ ?_
 rotate_left
 ·show Act.put _ (some 11) _ = _
  simp only [Act.put, List.setIfInBounds_toArray, List.set_cons_zero, List.set_cons_succ, i64_w, i32_w]
  rfl
 refine one_ (i := 6) (N := some 13) #[true, true, true, true, true, true, true, false, false, false, false, false, false, false, false] rfl rfl (one_of HT_.out (by kernel_rfl)) (by decide) (fun K hK => ?_)
 refine goes_ Tryz.func51 (by kernel_rfl) rfl #[.string ct] (by rfl) rfl rfl (by simp only [List.map_toArray, List.map_cons, List.map_nil]; rfl) ?_
 with_reducible refine (HT2.out _).mono ?_
 rintro e w3 ⟨rfl, hb⟩
 refine ⟨_, rfl, ?_⟩
 replace HB := Lib.hid (blk_below HB.out hb)
 replace HM := Lib.hid (HM.out.trans (Moved.of_below hb))
 clear hb
 refine hK.out _ _ ⟨(cell_of_blk (keep HM.out HP.out nP) rfl), (cell_of_blk (keep HM.out HC.out nC) rfl)⟩ (fun hHeld => ?_)
 clear hK K
 refine norm_ (a' := ?_) ?_ ?_
 rotate_left
 ·show Act.put _ (some 13) _ = _
  simp only [Act.put, List.setIfInBounds_toArray, List.set_cons_zero, List.set_cons_succ, i64_w, i32_w]
  rfl
 refine pure_ (i := 7) (N := some 14) (v := ?_) (a' := ?_) #[true, true, true, true, true, true, true, true, false, false, false, false, false, false, false] rfl rfl (any_of HT_.out (by kernel_rfl)) (fun _ _ _ h => h) (Or.inl ⟨by rfl, ?_⟩) ?_ ?_
 rotate_left
 ·intro w'
  go_simp
  with_reducible rfl
 rotate_left
 ·simp only [Act.put, List.setIfInBounds_toArray, List.set_cons_zero, List.set_cons_succ, i64_w, i32_w]
  rfl
 refine pure_ (i := 8) (N := some 15) (v := ?_) (a' := ?_) #[true, true, true, true, true, true, true, true, true, false, false, false, false, false, false] rfl rfl (any_of HT_.out (by kernel_rfl)) (fun _ _ _ h => h) (Or.inl ⟨by rfl, ?_⟩) ?_ ?_
 rotate_left
 ·intro w'
  go_simp
  with_reducible rfl
 rotate_left
 ·simp only [Act.put, List.setIfInBounds_toArray, List.set_cons_zero, List.set_cons_succ, i64_w, i32_w]
  rfl
 refine one_ (i := 9) (N := some 16) #[true, true, true, true, true, true, true, true, true, true, false, false, false, false, false] rfl rfl (one_of HT_.out (by kernel_rfl)) (by decide) (fun K hK => ?_)
 refine goes_ Tryz.func49 (by kernel_rfl) rfl #[.string tc, .int .i64 0] (by rfl) rfl rfl (by simp only [List.map_toArray, List.map_cons, List.map_nil]; rfl) ?_
 with_reducible refine (must_ok _ _).mono ?_
 rintro e w4 ⟨rfl, rfl⟩
 refine ⟨_, rfl, ?_⟩
 refine hK.out _ _ ⟨(cell_of_blk (keep HM.out HP.out nP) rfl), (cell_of_blk (keep HM.out HC.out nC) rfl)⟩ (fun hHeld => ?_)
 clear hK K
 refine norm_ (a' := ?_) ?_ ?_
 rotate_left
 ·show Act.put _ (some 16) _ = _
  simp only [Act.put, List.setIfInBounds_toArray, List.set_cons_zero, List.set_cons_succ, i64_w, i32_w]
  rfl
 refine one_ (i := 10) (N := some 17) #[true, true, true, true, true, true, true, true, true, true, true, false, false, false, false] rfl rfl (one_of HT_.out (by kernel_rfl)) (by decide) (fun K hK => ?_)
 refine goes_ Tryz.func50 (by kernel_rfl) rfl #[.string tp, .string tc] (by rfl) rfl rfl (by simp only [List.map_toArray, List.map_cons, List.map_nil]; rfl) ?_
 with_reducible refine (HPR.out _).mono ?_
 rintro e w5 ⟨rfl, hb⟩
 refine ⟨_, rfl, ?_⟩
 replace HB := Lib.hid (blk_below HB.out hb)
 replace HM := Lib.hid (HM.out.trans (Moved.of_below hb))
 clear hb
 refine hK.out _ _ ⟨(cell_of_blk (keep HM.out HP.out nP) rfl), (cell_of_blk (keep HM.out HC.out nC) rfl)⟩ (fun hHeld => ?_)
 clear hK K
 refine norm_ (a' := ?_) ?_ ?_
 rotate_left
 ·show Act.put _ (some 17) _ = _
  simp only [Act.put, List.setIfInBounds_toArray, List.set_cons_zero, List.set_cons_succ, i64_w, i32_w]
  rfl
 refine pure_ (i := 11) (N := some 18) (v := ?_) (a' := ?_) #[true, true, true, true, true, true, true, true, true, true, true, true, false, false, false] rfl rfl (any_of HT_.out (by kernel_rfl)) (fun _ _ _ h => h) (Or.inl ⟨by rfl, ?_⟩) ?_ ?_
 rotate_left
 ·intro w'
  go_simp
  with_reducible rfl
 rotate_left
 ·simp only [Act.put, List.setIfInBounds_toArray, List.set_cons_zero, List.set_cons_succ, i64_w, i32_w]
  rfl
 refine pure_ (i := 12) (N := some 19) (v := ?_) (a' := ?_) #[true, true, true, true, true, true, true, true, true, true, true, true, true, false, false] rfl rfl (any_of HT_.out (by kernel_rfl)) (fun _ _ _ h => h) (Or.inl ⟨by rfl, ?_⟩) ?_ ?_
 rotate_left
 ·intro w'
  go_simp
  with_reducible rfl
 rotate_left
 ·simp only [Act.put, List.setIfInBounds_toArray, List.set_cons_zero, List.set_cons_succ, i64_w, i32_w]
  rfl
 refine one_ (i := 13) (N := some 20) #[true, true, true, true, true, true, true, true, true, true, true, true, true, true, false] rfl rfl (one_of HT_.out (by kernel_rfl)) (by decide) (fun K hK => ?_)
 refine goes_ Tryz.func49 (by kernel_rfl) rfl #[.string bp, .int .i64 0] (by rfl) rfl rfl (by simp only [List.map_toArray, List.map_cons, List.map_nil]; rfl) ?_
 with_reducible refine (must_ok _ _).mono ?_
 rintro e w6 ⟨rfl, rfl⟩
 refine ⟨_, rfl, ?_⟩
 refine hK.out _ _ ⟨(cell_of_blk (keep HM.out HP.out nP) rfl), (cell_of_blk (keep HM.out HC.out nC) rfl)⟩ (fun hHeld => ?_)
 clear hK K
 refine norm_ (a' := ?_) ?_ ?_
 rotate_left
 ·show Act.put _ (some 20) _ = _
  simp only [Act.put, List.setIfInBounds_toArray, List.set_cons_zero, List.set_cons_succ, i64_w, i32_w]
  rfl
 refine pure_ (i := 14) (N := some 6) (v := ?_) (a' := ?_) #[true, true, true, true, true, true, true, true, true, true, true, true, true, true, true] rfl rfl (any_of HT_.out (by kernel_rfl)) (fun _ _ _ h => h) (Or.inl ⟨by rfl, ?_⟩) ?_ ?_
 rotate_left
 ·intro w'
  go_simp
  with_reducible rfl
 rotate_left
 ·simp only [Act.put, List.setIfInBounds_toArray, List.set_cons_zero, List.set_cons_succ, i64_w, i32_w]
  rfl
 refine done_ (done_of HT_.out (by kernel_rfl)) ?_
 clear HT1 HT2 HPR HP HC
 have c0 : w6.cell? ⟨St, 0, none⟩ = some (.string st) := cell_of_blk (keep HM.out HS.out nS) rfl
 clear HT_
 go_wp2_with fail
 refine (HKy.out _).mono ?_
 rintro e w7 ⟨rfl, hb⟩
 replace HB := Lib.hid (blk_below HB.out hb)
 replace HM := Lib.hid (HM.out.trans (Moved.of_below hb))
 clear hb
 by_cases qK : Ky.2 = 0
 rotate_left
 ·go_wp2_with fail
  refine (must_err _ _ qK _).mono ?_
  rintro e v1 ⟨rfl, rfl⟩
  obtain rfl : R = (noBl, Ky.2) := by rw [HR.out, if_neg qK]
  go_wp2
  exact ⟨rfl, Or.inr ⟨qK, rfl⟩, fun h => absurd h qK, HM.out⟩
 go_wp2_with fail
 try rw [qK]
 refine (must_ok _ _).mono ?_
 rintro e v1 ⟨rfl, rfl⟩
 clear c0 HKy
 go_wp2_with fail
 refine (HSe.out _).mono ?_
 rintro e w8 ⟨rfl, hb⟩
 replace HB := Lib.hid (blk_below HB.out hb)
 replace HM := Lib.hid (HM.out.trans (Moved.of_below hb))
 clear hb
 by_cases qL : Se.2 = 0
 rotate_left
 ·go_wp2_with fail
  refine (must_err _ _ qL _).mono ?_
  rintro e v2 ⟨rfl, rfl⟩
  obtain rfl : R = (noBl, Se.2) := by rw [HR.out, if_pos qK, if_neg qL]
  go_wp2
  exact ⟨rfl, Or.inr ⟨qL, rfl⟩, fun h => absurd h qL, HM.out⟩
 go_wp2_with fail
 try rw [qL]
 refine (must_ok _ _).mono ?_
 rintro e v2 ⟨rfl, rfl⟩
 have c1 := cell_of_blk (j := 1) (v := .string ⟨#[]⟩) HB.out rfl
 have z1 := free_of_blk (j := 1) HB.out
 obtain ⟨L1, hL1⟩ : ∃ L1, Se.1 = L1 := ⟨_, rfl⟩
 rw [hL1] at HSO HSE ⊢
 have HL1 := Lib.hid hL1
 clear hL1 HSe
 go_wp2_with fail
 clear c1 z1
 replace HM := Lib.hid (HM.out.trans (Moved.setCell (S := (· = B)) v2 (a := ⟨B, 1, none⟩) rfl (.string L1)))
 replace HB := Lib.hid (blk_setCell (j := 1) (u := .string L1) HB.out)
 generalize v2.setCell ⟨B, 1, none⟩ (.string L1) = V at HM HB ⊢
 have hb : Below V.heap.size V V.drew := below_drew (Below.refl _ _)
 replace HB := Lib.hid (blk_below HB.out hb)
 replace HM := Lib.hid (HM.out.trans (Moved.of_below hb))
 clear hb
 refine start_ (n := 11) (S := fun w' => w'.cell? ⟨G, 0, none⟩ = some (.string sg) ∧ w'.cell? ⟨Ep, 0, none⟩ = some (.int .i64 e0) ∧ w'.cell? ⟨B, 1, none⟩ = some (.string L1)) (ds := [10]) #[false, false, false, false, false, false, false, false, false, false, false] (by kernel_rfl) rfl rfl ⟨(cell_of_blk (keep HM.out HG.out nG) rfl), (cell_of_blk (keep HM.out HE.out nE) rfl), (cell_of_blk HB.out rfl)⟩ (fun hHeld => ?_)
 refine with_tabW bd1.tab2 bd1.bits2 (fun HT_ HW_ => ?_)
 refine pure_ (i := 2) (N := some 34) (v := ?_) (a' := ?_) #[false, false, true, false, false, false, false, false, false, false, false] rfl rfl (any_of HT_.out (by kernel_rfl)) (fun _ _ _ h => h) (Or.inl ⟨by rfl, ?_⟩) ?_ ?_
 rotate_left
 ·intro w'
  go_simp
  with_reducible rfl
 rotate_left
 ·simp only [Act.put, List.setIfInBounds_toArray, List.set_cons_zero, List.set_cons_succ, i64_w, i32_w]
  rfl
 refine take_ (i := 0) (N := some 32) (v := ?_) (a' := ?_) #[true, false, true, false, false, false, false, false, false, false, false] rfl rfl (take_ofW HT_.out HW_.out (by kernel_rfl)) (fun _ _ _ h => h) (Or.inl ⟨by rfl, ?_⟩) hHeld ?_ ?_
 rotate_left
 ·rintro w' ⟨s0, s1, s2⟩
  go_simp
  with_reducible rfl
 rotate_left
 ·simp only [Act.put, List.setIfInBounds_toArray, List.set_cons_zero, List.set_cons_succ, i64_w, i32_w]
  rfl
 refine take_ (i := 1) (N := some 33) (v := ?_) (a' := ?_) #[true, true, true, false, false, false, false, false, false, false, false] rfl rfl (take_ofW HT_.out HW_.out (by kernel_rfl)) (fun _ _ _ h => h) (Or.inl ⟨by rfl, ?_⟩) hHeld ?_ ?_
 rotate_left
 ·rintro w' ⟨s0, s1, s2⟩
  go_simp
  with_reducible rfl
 rotate_left
 ·simp only [Act.put, List.setIfInBounds_toArray, List.set_cons_zero, List.set_cons_succ, i64_w, i32_w]
  rfl
 refine take_ (i := 3) (N := some 35) (v := ?_) (a' := ?_) #[true, true, true, true, false, false, false, false, false, false, false] rfl rfl (take_ofW HT_.out HW_.out (by kernel_rfl)) (fun _ _ _ h => h) (Or.inl ⟨by rfl, ?_⟩) hHeld ?_ ?_
 rotate_left
 ·rintro w' ⟨s0, s1, s2⟩
  go_simp
  with_reducible rfl
 rotate_left
 ·simp only [Act.put, List.setIfInBounds_toArray, List.set_cons_zero, List.set_cons_succ, i64_w, i32_w]
  rfl
 refine one_ (i := 4) (N := some 36) #[true, true, true, true, true, false, false, false, false, false, false] rfl rfl (one_of HT_.out (by kernel_rfl)) (by decide) (fun K hK => ?_)
 by_cases qM : M.2 = 0
 rotate_left
 ·refine dies_ Tryz.func55 (by kernel_rfl) rfl #[.int .i64 e0, .string L1] (by rfl) rfl rfl (by simp only [List.map_toArray, List.map_cons, List.map_nil]; rfl) ?_
  with_reducible refine (HSE.out _ qM).mono ?_
  rintro e w9 ⟨rfl, hb⟩
  refine ⟨_, rfl, ?_⟩
  replace HM := Lib.hid (HM.out.trans (Moved.of_below hb))
  obtain rfl : R = (noBl, M.2) := by rw [HR.out, if_pos qK, if_pos qL, if_neg qM]
  refine ⟨rfl, Or.inr ⟨qM, rfl⟩, fun h => absurd h qM, HM.out⟩
 refine goes_ Tryz.func55 (by kernel_rfl) rfl #[.int .i64 e0, .string L1] (by rfl) rfl rfl (by simp only [List.map_toArray, List.map_cons, List.map_nil]; rfl) ?_
 with_reducible refine (HSO.out _ qM).mono ?_
 rintro e w10 ⟨rfl, hb⟩
 refine ⟨_, rfl, ?_⟩
 replace HB := Lib.hid (blk_below HB.out hb)
 replace HM := Lib.hid (HM.out.trans (Moved.of_below hb))
 clear hb
 refine hK.out _ _ ⟨(cell_of_blk (keep HM.out HG.out nG) rfl), (cell_of_blk (keep HM.out HE.out nE) rfl), (cell_of_blk HB.out rfl)⟩ (fun hHeld => ?_)
 clear hK K
 refine norm_ (a' := ?_) ?_ ?_
 rotate_left
 ·show Act.put _ (some 36) _ = _
  simp only [Act.put, List.setIfInBounds_toArray, List.set_cons_zero, List.set_cons_succ, i64_w, i32_w]
  rfl
 refine one_ (i := 5) (N := some 37) #[true, true, true, true, true, true, false, false, false, false, false] rfl rfl (one_of HT_.out (by kernel_rfl)) (by decide) (fun K hK => ?_)
 refine goes_ Tryz.func54 (by kernel_rfl) rfl #[.string sg, .string M.1] (by rfl) rfl rfl (by simp only [List.map_toArray, List.map_cons, List.map_nil]; rfl) ?_
 with_reducible refine (HSG.out _).mono ?_
 rintro e w11 ⟨rfl, hb⟩
 refine ⟨_, rfl, ?_⟩
 replace HB := Lib.hid (blk_below HB.out hb)
 replace HM := Lib.hid (HM.out.trans (Moved.of_below hb))
 clear hb
 refine hK.out _ _ ⟨(cell_of_blk (keep HM.out HG.out nG) rfl), (cell_of_blk (keep HM.out HE.out nE) rfl), (cell_of_blk HB.out rfl)⟩ (fun hHeld => ?_)
 clear hK K
 refine norm_ (a' := ?_) ?_ ?_
 rotate_left
 ·show Act.put _ (some 37) _ = _
  simp only [Act.put, List.setIfInBounds_toArray, List.set_cons_zero, List.set_cons_succ, i64_w, i32_w]
  rfl
 refine pure_ (i := 6) (N := some 38) (v := ?_) (a' := ?_) #[true, true, true, true, true, true, true, false, false, false, false] rfl rfl (any_of HT_.out (by kernel_rfl)) (fun _ _ _ h => h) (Or.inl ⟨by rfl, ?_⟩) ?_ ?_
 rotate_left
 ·intro w'
  go_simp
  with_reducible rfl
 rotate_left
 ·simp only [Act.put, List.setIfInBounds_toArray, List.set_cons_zero, List.set_cons_succ, i64_w, i32_w]
  rfl
 refine pure_ (i := 7) (N := some 39) (v := ?_) (a' := ?_) #[true, true, true, true, true, true, true, true, false, false, false] rfl rfl (any_of HT_.out (by kernel_rfl)) (fun _ _ _ h => h) (Or.inl ⟨by rfl, ?_⟩) ?_ ?_
 rotate_left
 ·intro w'
  go_simp
  with_reducible rfl
 rotate_left
 ·simp only [Act.put, List.setIfInBounds_toArray, List.set_cons_zero, List.set_cons_succ, i64_w, i32_w]
  rfl
 refine one_ (i := 8) (N := some 40) #[true, true, true, true, true, true, true, true, true, false, false] rfl rfl (one_of HT_.out (by kernel_rfl)) (by decide) (fun K hK => ?_)
 by_cases qN : X.2 = 0
 rotate_left
 ·refine dies_ Tryz.func49 (by kernel_rfl) rfl #[.string X.1, .int .i64 X.2] (by rfl) rfl rfl (by simp only [List.map_toArray, List.map_cons, List.map_nil]; rfl) ?_
  with_reducible refine (must_err _ _ qN _).mono ?_
  rintro e w9 ⟨rfl, rfl⟩
  refine ⟨_, rfl, ?_⟩
  obtain rfl : R = (noBl, X.2) := by rw [HR.out, if_pos qK, if_pos qL, if_pos qM, if_neg qN]
  refine ⟨rfl, Or.inr ⟨qN, rfl⟩, fun h => absurd h qN, HM.out⟩
 try rw [qN]
 refine goes_ Tryz.func49 (by kernel_rfl) rfl #[.string X.1, .int .i64 0] (by rfl) rfl rfl (by simp only [List.map_toArray, List.map_cons, List.map_nil]; rfl) ?_
 with_reducible refine (must_ok _ _).mono ?_
 rintro e w12 ⟨rfl, rfl⟩
 refine ⟨_, rfl, ?_⟩
 refine hK.out _ _ ⟨(cell_of_blk (keep HM.out HG.out nG) rfl), (cell_of_blk (keep HM.out HE.out nE) rfl), (cell_of_blk HB.out rfl)⟩ (fun hHeld => ?_)
 clear hK K
 refine norm_ (a' := ?_) ?_ ?_
 rotate_left
 ·show Act.put _ (some 40) _ = _
  simp only [Act.put, List.setIfInBounds_toArray, List.set_cons_zero, List.set_cons_succ, i64_w, i32_w]
  rfl
 refine pure_ (i := 9) (N := some 41) (v := ?_) (a' := ?_) #[true, true, true, true, true, true, true, true, true, true, false] rfl rfl (any_of HT_.out (by kernel_rfl)) (fun _ _ _ h => h) (Or.inl ⟨by rfl, ?_⟩) ?_ ?_
 rotate_left
 ·intro w'
  go_simp
  with_reducible rfl
 rotate_left
 ·simp only [Act.put, List.setIfInBounds_toArray, List.set_cons_zero, List.set_cons_succ, i64_w, i32_w]
  rfl
 refine last_ (i := 10) (N := none) #[true, true, true, true, true, true, true, true, true, true, true] rfl rfl (one_of HT_.out (by kernel_rfl)) (by decide) (fun K hK => ?_)
 have c2 := cell_of_blk (j := 2) (v := .string ⟨#[]⟩) HB.out rfl
 have z2 := free_of_blk (j := 2) HB.out
 refine skip_ (w1 := ?_) (by rfl) rfl ?_ ?_
 rotate_left
 ·go_simp
  rfl
 refine hK.out _ _ ?_
 clear hK K
 refine done_ (done_of HT_.out (by kernel_rfl)) ?_
 clear c2 z2
 replace HM := Lib.hid (HM.out.trans (Moved.setCell (S := (· = B)) w12 (a := ⟨B, 2, none⟩) rfl (.string X.1)))
 replace HB := Lib.hid (blk_setCell (j := 2) (u := .string X.1) HB.out)
 generalize w12.setCell ⟨B, 2, none⟩ (.string X.1) = V2 at HM HB ⊢
 obtain rfl : R = (⟨e0, L1, X.1⟩, 0) := by rw [HR.out, if_pos qK, if_pos qL, if_pos qM, if_pos qN, HL1.out]
 go_end0
 exact ⟨Or.inl ⟨rfl, rfl⟩, fun _ => HB.out, HM.out⟩
end Go.Proofs.YtphehoidkmficaaGreatDoor
end
section

namespace Go.Proofs.YtphehoidkmficaaGreatDoor
open Go.RowKit Go.Proofs.YtphehoidkmficaaGreatDoorW.PrintWords Go.Proofs.YtphehoidkmficaaGreatDoor.Ref
set_option linter.unusedVariables false
set_option linter.unusedSimpArgs false
theorem asw_parts (y : Value) (W : World) : Sem.run Tryz.prog (Instr.typeAssert (.iface 114 y) 108 118 true) W = .ok (.tuple #[.agg #[.string ⟨#[]⟩, .string ⟨#[]⟩], .bool false]) W := by kernel_rfl
theorem asw_number (y : Value) (W : World) : Sem.run Tryz.prog (Instr.typeAssert (.iface 159 y) 108 118 true) W = .ok (.tuple #[.agg #[.string ⟨#[]⟩, .string ⟨#[]⟩], .bool false]) W := by kernel_rfl
theorem asw_words (y : Value) (W : World) : Sem.run Tryz.prog (Instr.typeAssert (.iface 118 y) 108 118 true) W = .ok (.tuple #[y, .bool true]) W := by kernel_rfl
theorem asp_parts (y : Value) (W : World) : Sem.run Tryz.prog (Instr.typeAssert (.iface 114 y) 108 114 false) W = .ok y W := by kernel_rfl
set_option maxRecDepth 100000 in
theorem words_call (s : ByteArray) (hs : s.size ≤ 1000000) (w : World) :
  Calls Tryz.prog 71 #[.string s] w fun e w' => e = .returned (.tuple #[.string (wordsF s).1, .int .i64 (wordsF s).2]) ∧ Below w.heap.size w w' := by
 have HW := Lib.hid (whole_any s w (by omega))
 cases ht : termOf (bytes s) with
 | none =>
  rw [show wordsF s = (⟨#[]⟩, 1) from by unfold wordsF; rw [ht]]
  go_enter Tryz.func71, Tryz.ntmps71
  go_wp2_with fail
  refine HW.out.mono ?_
  rintro e w1 ⟨v, rfl, hv, hb⟩
  rw [ht] at hv
  obtain rfl : v = .nilIface := hv
  have HB := Lib.hid hb
  clear hb ht
  go_wp2
  go_ret2
  exact ⟨rfl, HB.out⟩
 | some t =>
  obtain ⟨R, hR⟩ : ∃ R, wordsF s = R := ⟨_, rfl⟩
  have HR : Hid (wordsF s = R) := hR
  rw [hR]
  clear hR
  go_enter Tryz.func71, Tryz.ntmps71
  go_wp2_with fail
  refine HW.out.mono ?_
  rintro e w1 ⟨v, rfl, hv, hb⟩
  rw [ht] at hv
  have hv : NodeAt w1 w.heap.size v t := hv
  have f1 := asw_parts
  have f2 := asw_number
  have f3 := asw_words
  have HB : Hid (∀ o, Below w.heap.size w (w1.alloc o)) := fun o => hb.alloc hb.size o
  clear hb
  cases t with
  | atom n =>
   obtain rfl := hv
   obtain rfl : R = (⟨#[]⟩, 2) := by rw [← HR.out]; unfold wordsF; rw [ht]
   clear ht
   simp only [leafVal]
   go_wp2
   go_ret2
   exact ⟨rfl, HB.out _⟩
  | text n =>
   obtain rfl := hv
   obtain rfl : R = (ofBytes n, 0) := by rw [← HR.out]; unfold wordsF; rw [ht]
   clear ht
   simp only [leafVal]
   go_wp2
   go_ret2
   exact ⟨rfl, HB.out _⟩
  | one k a =>
   obtain ⟨sv, rfl, ho⟩ := hv
   obtain rfl : R = (⟨#[]⟩, 2) := by rw [← HR.out]; unfold wordsF; rw [ht]
   clear ht
   generalize ofBytes (enc (T.one k a)) = qa at *
   go_wp2
   go_ret2
   exact ⟨rfl, HB.out _⟩
  | two k a b =>
   obtain ⟨sv, rfl, ho⟩ := hv
   obtain rfl : R = (⟨#[]⟩, 2) := by rw [← HR.out]; unfold wordsF; rw [ht]
   clear ht
   generalize ofBytes (enc (T.two k a b)) = qa at *
   go_wp2
   go_ret2
   exact ⟨rfl, HB.out _⟩
theorem nonempty_right {s : ByteArray} (h : right s = true) : 0 < s.size := by
 obtain ⟨t, h1, h2⟩ := right_inv h
 have := enc_pos t
 rw [← h2, bytes_length] at this
 exact this
theorem first_code {s : ByteArray} {t : T} (h : termOf (bytes s) = some t) : ∀ h : 0 < s.size, (s[0]'h).toNat = t.code.toNat := by
 obtain ⟨l, hl⟩ := enc_code t
 have hb0 : bytes s = t.code :: l := by rw [(termOf_inv h).1, hl]
 exact fun h => by rw [(bytes_cons hb0).2.2.1 h]
theorem toL (a b : ByteArray) : a.toList = b.toList ↔ a = b := ⟨fun h => bs_inj (by rwa [bytes_toList, bytes_toList] at h), fun h => by rw [h]⟩
theorem verify_seven {t : T} {a s : ByteArray} (h1 : right (tm t) = true) (h2 : right a = true) (h3 : right s = true) (hw : Wf t) (h : t.code.toNat ≠ 117) : verifyF (tm t) a s = 7 := by
 unfold verifyF
 rw [if_pos ⟨h1, h2, h3⟩, term_tm hw]
 cases t with
 | atom n => rfl
 | text n => rfl
 | two k x y => rfl
 | one k x =>
  cases k with
  | h => rfl
  | u => exact absurd rfl h
theorem verify_pub {t : T} {a s : ByteArray} (h1 : right (tm t) = true) (h2 : right a = true) (h3 : right s = true) (hw : Wf t) (h : t.code.toNat = 117) : verifyF (tm t) a s = if s = (⟨#[103]⟩ ++ (tm t).extract 1 (tm t).size) ++ a then 0 else 7 := by
 unfold verifyF
 rw [if_pos ⟨h1, h2, h3⟩, term_tm hw]
 cases t with
 | atom n => simp [T.code] at h
 | text n => simp [T.code] at h
 | two k x y => cases k <;> simp [T.code, K2.code] at h
 | one k x =>
  cases k with
  | h => simp [T.code, K1.code] at h
  | u =>
   have e : (bytes s = 103 :: (enc x ++ bytes a)) ↔ s = (⟨#[103]⟩ ++ (tm (.one .u x)).extract 1 (tm (.one .u x)).size) ++ a := by
    have hb : bytes ((⟨#[103]⟩ ++ (tm (.one .u x)).extract 1 (tm (.one .u x)).size) ++ a) = 103 :: (enc x ++ bytes a) := by
     rw [bytes_append, bytes_append, bytes_from, bytes_tm, bytes_one]
     rfl
    exact ⟨fun h => bs_inj (by rw [h, hb]), fun h => by rw [h, hb]⟩
   by_cases hs : bytes s = 103 :: (enc x ++ bytes a)
   ·rw [if_pos (e.1 hs)]
    simp only
    rw [if_pos hs]
   ·rw [if_neg (fun h => hs (e.2 h))]
    simp only
    rw [if_neg hs]
set_option maxRecDepth 100000 in
set_option maxHeartbeats 1000000 in
theorem verify_call (p a s : ByteArray) (hp : p.size ≤ 1000000) (ha : a.size ≤ 1000000) (hs : s.size ≤ 1000000) (w : World) :
  Calls Tryz.prog 66 #[.string p, .string a, .string s] w fun e w' => e = .returned (.int .i64 (verifyF p a s)) ∧ Below w.heap.size w w' := by
 cases hrp : right p with
 | false =>
  have HP := Lib.hid (whole_wrong p w (by omega) hrp)
  rw [show verifyF p a s = 1 from by unfold verifyF; rw [hrp, if_neg (by simp)]]
  clear hrp
  go_enter Tryz.func66, Tryz.ntmps66
  go_wp2_with fail
  refine HP.out.mono ?_
  rintro e w1 ⟨rfl, hb⟩
  have HB := Lib.hid hb
  clear hb
  go_wp2
  go_ret
  exact ⟨rfl, HB.out⟩
 | true =>
  have HP := Lib.hid (whole_right p w (by omega) hrp)
  cases hra : right a with
  | false =>
   have HA := Lib.hid (fun w => whole_wrong a w (by omega) hra)
   rw [show verifyF p a s = 1 from by unfold verifyF; rw [hra, if_neg (by simp)]]
   clear hrp hra
   go_enter Tryz.func66, Tryz.ntmps66
   go_wp2_with fail
   refine HP.out.mono ?_
   rintro e w1 ⟨ty, y, rfl, hb⟩
   have HB := Lib.hid hb
   clear hb
   go_wp2_with fail
   refine (HA.out _).mono ?_
   rintro e w2 ⟨rfl, hb⟩
   have HB := Lib.hid (below_step HB.out hb)
   clear hb
   go_wp2
   go_ret
   exact ⟨rfl, HB.out⟩
  | true =>
   have HA := Lib.hid (fun w => whole_right a w (by omega) hra)
   cases hrs : right s with
   | false =>
    have HS := Lib.hid (fun w => whole_wrong s w (by omega) hrs)
    rw [show verifyF p a s = 1 from by unfold verifyF; rw [hrs, if_neg (by simp)]]
    clear hrp hra hrs
    go_enter Tryz.func66, Tryz.ntmps66
    go_wp2_with fail
    refine HP.out.mono ?_
    rintro e w1 ⟨ty, y, rfl, hb⟩
    have HB := Lib.hid hb
    clear hb
    go_wp2_with fail
    refine (HA.out _).mono ?_
    rintro e w2 ⟨ty2, y2, rfl, hb⟩
    have HB := Lib.hid (below_step HB.out hb)
    clear hb
    go_wp2_with fail
    refine (HS.out _).mono ?_
    rintro e w3 ⟨rfl, hb⟩
    have HB := Lib.hid (below_step HB.out hb)
    clear hb
    go_wp2
    go_ret
    exact ⟨rfl, HB.out⟩
   | true =>
    have HS := Lib.hid (fun w => whole_right s w (by omega) hrs)
    obtain ⟨t, hw, rfl⟩ := right_tm_of hrp
    have hp0 := nonempty_right hrp
    have hc := first_code (term_tm hw)
    obtain ⟨R, hR⟩ : ∃ R, verifyF (tm t) a s = R := ⟨_, rfl⟩
    have hv7 := verify_seven hrp hra hrs hw
    have hv0 := verify_pub hrp hra hrs hw
    rw [hR] at hv7 hv0 ⊢
    clear hrp hra hrs hR
    generalize tm t = pp at *
    generalize t.code.toNat = cn at *
    clear hw
    have H7 := Lib.hid hv7
    have H0 := Lib.hid hv0
    clear hv7 hv0
    go_enter Tryz.func66, Tryz.ntmps66
    go_wp2_with fail
    refine HP.out.mono ?_
    rintro e w1 ⟨ty, y, rfl, hb⟩
    have HB := Lib.hid hb
    clear hb
    go_wp2_with fail
    refine (HA.out _).mono ?_
    rintro e w2 ⟨ty2, y2, rfl, hb⟩
    replace HB := Lib.hid (below_step HB.out hb)
    clear hb
    go_wp2_with fail
    refine (HS.out _).mono ?_
    rintro e w3 ⟨ty3, y3, rfl, hb⟩
    replace HB := Lib.hid (below_step HB.out hb)
    clear hb
    by_cases h117 : cn = 117
    ·subst h117
     have hv := H0.out rfl
     have HV := Lib.hid hv
     have hc1 : ∀ h : 0 < pp.size, ((pp[0]'h).toNat : Int) = 117 := fun h => by rw [hc h]; rfl
     clear hv H0 H7
     by_cases e : s = (⟨#[103]⟩ ++ pp.extract 1 pp.size) ++ a
     ·obtain rfl : R = 0 := by rw [HV.out, if_pos e]
      have hq : (s.toList == ((⟨#[103]⟩ ++ pp.extract 1 pp.size) ++ a).toList) = true := by rw [beq_iff_eq]; exact (toL _ _).2 e
      clear e
      go_wp2
      go_ret
      exact ⟨rfl, HB.out⟩
     ·obtain rfl : R = 7 := by rw [HV.out, if_neg e]
      have hq : (s.toList == ((⟨#[103]⟩ ++ pp.extract 1 pp.size) ++ a).toList) = false := by rw [beq_eq_false_iff_ne]; exact fun h => e ((toL _ _).1 h)
      clear e
      go_wp2
      go_ret
      exact ⟨rfl, HB.out⟩
    ·obtain rfl : R = 7 := H7.out h117
     have hne : ((cn : Int) == 117) = false := by rw [beq_eq_false_iff_ne]; omega
     have hne2 : ((cn : Int) != 117) = true := by rw [bne_iff_ne]; omega
     clear H0 H7
     go_wp2
     go_ret
     exact ⟨rfl, HB.out⟩
theorem node_parts {w : World} {base : Nat} {v : Value} {k : K2} {a b : T} (h : NodeAt w base v (.two k a b)) :
  ∃ g c, v = .iface 114 (.agg #[.string (tm (.two k a b)), .slice (some ⟨g, 0, none⟩) 2 c]) ∧ 2 ≤ c ∧ (∀ o, (w.alloc o).cell? ⟨g, 0, none⟩ = some (.string (tm a))) ∧ (∀ o, (w.alloc o).cell? ⟨g, 1, none⟩ = some (.string (tm b))) := by
 obtain ⟨sv, rfl, ho⟩ := h
 obtain ⟨g, c, rfl, _, _⟩ := ho.form (by omega)
 have hR : ∀ o, Kd.R Kd.string 9 (w.alloc o) base (fun _ => True) (.slice (some ⟨g, 0, none⟩) 2 c) [tm a, tm b] := fun o => R_of_own (n := 2) (ho.alloc o)
 have hc := fun o => (Kd.R_reads' (hR o)).2.2
 refine ⟨g, c, rfl, (Kd.R_reads' (hR (.cells #[] 0))).2.1, fun o => ?_, fun o => ?_⟩
 ·obtain ⟨ad, e, h0⟩ := readsC (hc o) (k := 0) (by simp)
  obtain rfl := Option.some.inj e
  have e0 : Addr.add ⟨g, 0, none⟩ 0 = ⟨g, 0, none⟩ := by simp [Addr.add]
  rw [e0] at h0
  exact h0
 ·obtain ⟨ad, e, h0⟩ := readsC (hc o) (k := 1) (by simp)
  obtain rfl := Option.some.inj e
  have e1 : Addr.add ⟨g, 0, none⟩ 1 = ⟨g, 1, none⟩ := by simp [Addr.add]
  rw [e1] at h0
  exact h0
def underF (k : ByteArray) (a b : T) : ByteArray × Int := if tm a = k then (tm b, 0) else (⟨#[]⟩, 6)
set_option maxRecDepth 100000 in
set_option maxHeartbeats 1000000 in
theorem under_call (k : ByteArray) {a b : T} (hw : Wf (.two .s a b)) (w : World) :
  Calls Tryz.prog 108 #[.int .u8 115, .string k, .string (tm (.two .s a b))] w fun e w' => e = .returned (.tuple #[.string (underF k a b).1, .int .i64 (underF k a b).2]) ∧ Below w.heap.size w w' := by
 have hs : (tm (.two .s a b)).size ≤ 4000 := right_size (right_tm hw)
 have HW := Lib.hid (whole_any (tm (.two .s a b)) w (by omega))
 have ht := term_tm hw
 have hc := first_code ht
 have hp0 := nonempty_right (right_tm hw)
 have f1 := asp_parts
 obtain ⟨R, hR⟩ : ∃ R, underF k a b = R := ⟨_, rfl⟩
 have HR := Lib.hid hR
 rw [hR]
 have hc1 : ∀ h : 0 < (tm (.two .s a b)).size, (((tm (.two .s a b))[0]'h).toNat : Int) = 115 := fun h => by rw [hc h]; rfl
 have HN : Hid (∀ (W : World) (v : Value), WholeRes W w.heap.size v (termOf (bytes (tm (.two .s a b)))) → NodeAt W w.heap.size v (.two .s a b)) := fun W v h => by rw [ht] at h; exact h
 clear hR ht hc
 go_enter Tryz.func108, Tryz.ntmps108
 go_wp2_with fail
 refine HW.out.mono ?_
 rintro e w1 ⟨v, rfl, hv, hb⟩
 obtain ⟨g, c, rfl, hc2, c0, c1⟩ := node_parts (HN.out _ _ hv)
 have HB : Hid (∀ o, Below w.heap.size w (w1.alloc o)) := fun o => hb.alloc hb.size o
 clear hb hv HN HW
 by_cases e : tm a = k
 ·obtain rfl : R = (tm b, 0) := by rw [← HR.out]; unfold underF; rw [if_pos e]
  have hq : ((tm a).toList == k.toList) = true := by rw [e]; simp
  generalize tm a = x at *
  generalize tm (.two .s a b) = z at *
  clear e HR
  go_wp2
  go_ret2
  exact ⟨rfl, HB.out _⟩
 ·obtain rfl : R = (⟨#[]⟩, 6) := by rw [← HR.out]; unfold underF; rw [if_neg e]
  have hq : ((tm a).toList == k.toList) = false := by rw [beq_eq_false_iff_ne]; exact fun h => e ((toL _ _).1 h)
  generalize tm a = x at *
  generalize tm (.two .s a b) = z at *
  clear e HR
  go_wp2
  go_ret2
  exact ⟨rfl, HB.out _⟩
theorem under_wrong (k : ByteArray) {t : T} (hw : Wf t) (h : t.code.toNat ≠ 115) (w : World) :
  Calls Tryz.prog 108 #[.int .u8 115, .string k, .string (tm t)] w fun e w' => e = .returned (.tuple #[.string ⟨#[]⟩, .int .i64 2]) ∧ Below w.heap.size w w' := by
 have hc := first_code (term_tm hw)
 have hp0 := nonempty_right (right_tm hw)
 have hne : ((t.code.toNat : Int) == 115) = false := by rw [beq_eq_false_iff_ne]; omega
 have hne2 : ((t.code.toNat : Int) != 115) = true := by rw [bne_iff_ne]; omega
 have HB := Lib.hid (Below.refl w.heap.size w)
 generalize tm t = z at *
 generalize t.code.toNat = cn at *
 clear hw h
 go_enter Tryz.func108, Tryz.ntmps108
 go_wp2
 go_ret2
 exact ⟨rfl, HB.out⟩
set_option maxRecDepth 100000 in
theorem open_call (k c : ByteArray) (hk : k.size ≤ 1000000) (hc : c.size ≤ 1000000) (w : World) :
  Calls Tryz.prog 70 #[.string k, .string c] w fun e w' => e = .returned (.tuple #[.string (unsealF k c).1, .int .i64 (unsealF k c).2]) ∧ Below w.heap.size w w' := by
 cases hrk : right k with
 | false =>
  have HK := Lib.hid (whole_wrong k w (by omega) hrk)
  rw [show unsealF k c = (⟨#[]⟩, 1) from by unfold unsealF; rw [hrk, if_neg (by simp)]]
  clear hrk
  go_enter Tryz.func70, Tryz.ntmps70
  go_wp2_with fail
  refine HK.out.mono ?_
  rintro e w1 ⟨rfl, hb⟩
  have HB := Lib.hid hb
  clear hb
  go_wp2
  go_ret2
  exact ⟨rfl, HB.out⟩
 | true =>
  have HK := Lib.hid (whole_right k w (by omega) hrk)
  cases hrc : right c with
  | false =>
   have HC := Lib.hid (fun w => whole_wrong c w (by omega) hrc)
   rw [show unsealF k c = (⟨#[]⟩, 1) from by
    unfold unsealF
    have : termOf (bytes c) = none := by unfold right at hrc; simpa using hrc
    rw [if_pos hrk, this]]
   clear hrk hrc
   go_enter Tryz.func70, Tryz.ntmps70
   go_wp2_with fail
   refine HK.out.mono ?_
   rintro e w1 ⟨ty, y, rfl, hb⟩
   have HB := Lib.hid hb
   clear hb
   go_wp2_with fail
   refine (HC.out _).mono ?_
   rintro e w2 ⟨rfl, hb⟩
   replace HB := Lib.hid (below_step HB.out hb)
   clear hb
   go_wp2
   go_ret2
   exact ⟨rfl, HB.out⟩
  | true =>
   have HC := Lib.hid (fun w => whole_right c w (by omega) hrc)
   obtain ⟨R, hR⟩ : ∃ R, unsealF k c = R := ⟨_, rfl⟩
   have HU : Hid (∀ W : World, Calls Tryz.prog 108 #[.int .u8 115, .string k, .string c] W fun e w' => e = .returned (.tuple #[.string R.1, .int .i64 R.2]) ∧ Below W.heap.size W w') := fun W => by
    obtain ⟨t, hw, rfl⟩ := right_tm_of hrc
    unfold unsealF at hR
    rw [if_pos hrk, term_tm hw] at hR
    by_cases h115 : t.code.toNat = 115
    ·obtain ⟨a, b, hab, rfl⟩ : ∃ a b, Wf (.two .s a b) ∧ t = .two .s a b := by
      cases t with
      | atom n => simp [T.code] at h115
      | text n => simp [T.code] at h115
      | one k x => cases k <;> simp [T.code, K1.code] at h115
      | two k x y =>
       cases k with
       | s => exact ⟨x, y, hw, rfl⟩
       | p => simp [T.code, K2.code] at h115
       | b => simp [T.code, K2.code] at h115
       | g => simp [T.code, K2.code] at h115
     rw [← hR]
     exact under_call k hw W
    ·have : R = (⟨#[]⟩, 2) := by
      rw [← hR]
      cases t with
      | atom n => rfl
      | text n => rfl
      | one k x => rfl
      | two k x y =>
       cases k with
       | s => exact absurd rfl h115
       | p => rfl
       | b => rfl
       | g => rfl
     rw [this]
     exact under_wrong k hw h115 W
   rw [hR]
   clear hrk hrc hR
   go_enter Tryz.func70, Tryz.ntmps70
   go_wp2_with fail
   refine HK.out.mono ?_
   rintro e w1 ⟨ty, y, rfl, hb⟩
   have HB := Lib.hid hb
   clear hb
   go_wp2_with fail
   refine (HC.out _).mono ?_
   rintro e w2 ⟨ty2, y2, rfl, hb⟩
   replace HB := Lib.hid (below_step HB.out hb)
   clear hb
   go_wp2_with fail
   refine (HU.out _).mono ?_
   rintro e w3 ⟨rfl, hb⟩
   replace HB := Lib.hid (below_step HB.out hb)
   clear hb
   go_wp2
   go_ret2
   exact ⟨rfl, HB.out⟩
end Go.Proofs.YtphehoidkmficaaGreatDoor
end
section

namespace Go.Proofs.YtphehoidkmficaaGreatDoor
open Go.RowKit Go.Proofs.YtphehoidkmficaaGreatDoorW.PrintWords Go.Proofs.YtphehoidkmficaaGreatDoorW.PrintLast Go.Proofs.YtphehoidkmficaaGreatDoor.Ref
set_option linter.unusedVariables false
set_option linter.unusedSimpArgs false
theorem keep_cell {B : Nat} {w W : World} {a : Addr} {x : Value} (h : Moved (· = B) w W) (ha : w.cell? a = some x) (hn : a.block ≠ B) : W.cell? a = some x := by
 rw [World.cell?_of_block (h.block a.block (World.block_lt_of_cell? w a ha) hn)]; exact ha
theorem two_of {w : World} {n : Nat} {v : Value} {x y : ByteArray} (h : Kd.R Kd.string 9 w n (fun _ => True) v [x, y]) :
  ∃ g c, v = .slice (some ⟨g, 0, none⟩) 2 c ∧ 2 ≤ c ∧ w.cell? ⟨g, 0, none⟩ = some (.string x) ∧ w.cell? ⟨g, 1, none⟩ = some (.string y) := by
 obtain ⟨g, c, rfl⟩ : ∃ g c, v = .slice (some ⟨g, 0, none⟩) 2 c := by
  obtain ⟨_, xs, ho, _⟩ := h
  obtain ⟨g, c, e, _⟩ := ho.form (by simp)
  exact ⟨g, c, e⟩
 have hc := (Kd.R_reads' h).2.2
 obtain ⟨ad, e, h0⟩ := readsC hc (k := 0) (by simp)
 obtain rfl := Option.some.inj e
 obtain ⟨ad', e, h1⟩ := readsC hc (k := 1) (by simp)
 obtain rfl := Option.some.inj e
 exact ⟨g, c, rfl, (Kd.R_reads' h).2.1, by simpa [Addr.add] using h0, by simpa [Addr.add] using h1⟩
def afterF (l : List ByteArray) (pa : ByteArray) : ByteArray × Int :=
 match l with
 | [x, y] => if (wordsF x).2 = 0 then (if (wordsF x).1 = pa then (if (wordsF y).2 = 0 then ((wordsF y).1, 0) else (⟨#[]⟩, (wordsF y).2)) else (⟨#[]⟩, 7)) else (⟨#[]⟩, (wordsF x).2)
 | _ => (⟨#[]⟩, 7)
theorem after_ne {l : List ByteArray} (h : l.length ≠ 2) (pa : ByteArray) : afterF l pa = (⟨#[]⟩, 7) := by
 unfold afterF
 split
 ·simp at h
 ·rfl
def op1.T0 : Bool × List (List Nat × List Nat) := (true, [([], []), ([], []), ([1], [1]), ([0, 2], [0, 2]), ([3], [3]), ([], []), ([5], [5]), ([], []), ([7], [7]), ([6, 8], [6, 8]), ([], []), ([10], [10]), ([4, 9, 11, 9], [4, 9, 11]), ([12, 12], [12])])
def op1.B0 : List Nat := [0, 0, 2, 7, 15, 0, 32, 0, 128, 480, 0, 1024, 4095, 8191]
theorem op1.tab0 : rtab .any (opsOf Tryz.f64 0) = op1.T0 := by kernel_rfl
theorem op1.bits0 : waitsOk op1.T0.2 op1.B0 = true := by kernel_rfl
def op1.T3 : Bool × List (List Nat × List Nat) := (true, [([], []), ([0], [0]), ([1], [1]), ([2], [2]), ([3], [3]), ([4, 3], [3, 4]), ([5, 3], [3, 5]), ([6, 3, 3], [3, 6]), ([7, 3], [3, 7]), ([7, 3], [3, 7]), ([8, 9, 7, 3], [3, 8, 9]), ([3], [3]), ([10, 11, 3], [3, 10, 11]), ([3, 12], [3, 12])])
def op1.B3 : List Nat := [0, 1, 3, 7, 15, 31, 63, 127, 255, 255, 1023, 15, 4095, 8191]
theorem op1.tab3 : rtab .any (opsOf Tryz.f64 3) = op1.T3 := by kernel_rfl
theorem op1.bits3 : waitsOk op1.T3.2 op1.B3 = true := by kernel_rfl
def O1Post (w : World) (C : Nat) (R : ByteArray × Int) (e : Ending) (w' : World) : Prop :=
 (R.2 = 0 ∧ e = .returned (.tuple #[]) ∨ R.2 ≠ 0 ∧ e = .panicked (failed R.2)) ∧ (R.2 = 0 → w'.heap[C]? = some (.cells #[.string R.1] 9 (0, 0))) ∧ Moved (· = C) w w'
set_option maxRecDepth 100000 in
set_option maxHeartbeats 4000000 in
theorem open1_walk {V B St Ep P C n cap k : Nat} {ad : Addr} {bs bg st pa v : ByteArray} {en vc : Int} {Bk Ky Op M : ByteArray × Int} {l : List ByteArray} {R : ByteArray × Int} (w : World)
  (hV : w.heap[V]? = some (.cells #[.slice (some ad) n cap] 24 (0, 0))) (hB : w.heap[B]? = some (.cells #[.int .i64 k, .string bs, .string bg] 23 (0, 0))) (hS : w.heap[St]? = some (.cells #[.string st] 9 (0, 0)))
  (hE : w.heap[Ep]? = some (.cells #[.int .i64 en] 3 (0, 0))) (hP : w.heap[P]? = some (.cells #[.string pa] 9 (0, 0))) (hC : w.heap[C]? = some (.cells #[.string ⟨#[]⟩] 9 (0, 0)))
  (hv : w.cell? (ad.add k) = some (.string v)) (hk : k < n) (hk8 : k ≤ 7) (hcap : n ≤ cap)
  (nV : V ≠ C) (nB : B ≠ C) (nS : St ≠ C) (nE : Ep ≠ C) (nP : P ≠ C) (nad : (ad.add k).block ≠ C)
  (hSO : ∀ W : World, M.2 = 0 → Calls Tryz.prog 55 #[.int .i64 k, .string bs] W fun e w' => e = .returned (.string M.1) ∧ Below W.heap.size W w')
  (hSE : ∀ W : World, M.2 ≠ 0 → Calls Tryz.prog 55 #[.int .i64 k, .string bs] W fun e w' => e = .panicked (failed M.2) ∧ Below W.heap.size W w')
  (hVF : ∀ W : World, Calls Tryz.prog 66 #[.string v, .string M.1, .string bg] W fun e w' => e = .returned (.int .i64 vc) ∧ Below W.heap.size W w')
  (hBk : Tells 67 #[.string st, .int .i64 (wrap64 (en - (k : Int)))] Bk) (hKy : Tells 53 #[.string Bk.1] Ky) (hOp : Tells 70 #[.string Ky.1, .string bs] Op)
  (hPt : Op.2 = 0 → ∀ W : World, Calls Tryz.prog 69 #[.string Op.1] W fun e w' => ∃ v0 : Value, e = .returned (.tuple #[v0, .int .i64 0]) ∧ Kd.R Kd.string 9 w' W.heap.size (fun _ => True) v0 l ∧ Below W.heap.size W w')
  (hll : l.length ≤ 2) (hls : ∀ x ∈ l, x.size ≤ 4000)
  (hR : R = if M.2 = 0 then (if vc = 0 then (if Bk.2 = 0 then (if Ky.2 = 0 then (if Op.2 = 0 then afterF l pa else (⟨#[]⟩, Op.2)) else (⟨#[]⟩, Ky.2)) else (⟨#[]⟩, Bk.2)) else (⟨#[]⟩, vc)) else (⟨#[]⟩, M.2)) :
  Calls Tryz.prog 64 #[.pointer (some ⟨V, 0, none⟩), .pointer (some ⟨B, 0, none⟩), .pointer (some ⟨St, 0, none⟩), .pointer (some ⟨Ep, 0, none⟩), .pointer (some ⟨P, 0, none⟩), .pointer (some ⟨C, 0, none⟩)] w (O1Post w C R) := by
 have HV := Lib.hid hV
 have HB := Lib.hid hB
 have HS := Lib.hid hS
 have HE := Lib.hid hE
 have HP := Lib.hid hP
 have HC := Lib.hid hC
 have Hv := Lib.hid hv
 have HSO := Lib.hid hSO
 have HSE := Lib.hid hSE
 have HVF := Lib.hid hVF
 have HBk := Lib.hid hBk
 have HKy := Lib.hid hKy
 have HOp := Lib.hid hOp
 have HPt := Lib.hid hPt
 have Hls := Lib.hid hls
 have HR := Lib.hid hR
 have HM := Lib.hid (Moved.refl (· = C) w)
 clear hV hB hS hE hP hC hv hSO hSE hVF hBk hKy hOp hPt hls hR
 go_enter Tryz.func64, Tryz.ntmps64
 go_wp2_with fail
 have hb : Below w.heap.size w w.drew := below_drew (Below.refl _ _)
 replace HC := Lib.hid (blk_below HC.out hb)
 replace HM := Lib.hid (HM.out.trans (Moved.of_below hb))
 clear hb
 refine start_ (n := 14) (S := fun w' => w'.cell? ⟨V, 0, none⟩ = some (.slice (some ad) n cap) ∧ w'.cell? ⟨B, 0, none⟩ = some (.int .i64 k) ∧ w'.cell? ⟨B, 1, none⟩ = some (.string bs) ∧ w'.cell? ⟨B, 2, none⟩ = some (.string bg) ∧ w'.cell? (ad.add k) = some (.string v)) (ds := []) #[false, false, false, false, false, false, false, false, false, false, false, false, false, false] (by kernel_rfl) rfl rfl ⟨(cell_of_blk (keep HM.out HV.out nV) rfl), (cell_of_blk (keep HM.out HB.out nB) rfl), (cell_of_blk (keep HM.out HB.out nB) rfl), (cell_of_blk (keep HM.out HB.out nB) rfl), (keep_cell HM.out Hv.out nad)⟩ (fun hHeld => ?_)
 refine with_tabW op1.tab0 op1.bits0 (fun HT_ HW_ => ?_)
 refine pure_ (i := 1) (N := some 9) (v := ?_) (a' := ?_) #[false, true, false, false, false, false, false, false, false, false, false, false, false, false] rfl rfl (any_of HT_.out (by kernel_rfl)) (fun _ _ _ h => h) (Or.inl ⟨by rfl, ?_⟩) ?_ ?_
 rotate_left
 ·intro w'
  go_simp
  with_reducible rfl
 rotate_left
 ·simp only [Act.put, List.setIfInBounds_toArray, List.set_cons_zero, List.set_cons_succ, i64_w, i32_w]
  rfl
 refine pure_ (i := 5) (N := some 13) (v := ?_) (a' := ?_) #[false, true, false, false, false, true, false, false, false, false, false, false, false, false] rfl rfl (any_of HT_.out (by kernel_rfl)) (fun _ _ _ h => h) (Or.inl ⟨by rfl, ?_⟩) ?_ ?_
 rotate_left
 ·intro w'
  go_simp
  with_reducible rfl
 rotate_left
 ·simp only [Act.put, List.setIfInBounds_toArray, List.set_cons_zero, List.set_cons_succ, i64_w, i32_w]
  rfl
 refine pure_ (i := 7) (N := some 15) (v := ?_) (a' := ?_) #[false, true, false, false, false, true, false, true, false, false, false, false, false, false] rfl rfl (any_of HT_.out (by kernel_rfl)) (fun _ _ _ h => h) (Or.inl ⟨by rfl, ?_⟩) ?_ ?_
 rotate_left
 ·intro w'
  go_simp
  with_reducible rfl
 rotate_left
 ·simp only [Act.put, List.setIfInBounds_toArray, List.set_cons_zero, List.set_cons_succ, i64_w, i32_w]
  rfl
 refine pure_ (i := 10) (N := some 18) (v := ?_) (a' := ?_) #[false, true, false, false, false, true, false, true, false, false, true, false, false, false] rfl rfl (any_of HT_.out (by kernel_rfl)) (fun _ _ _ h => h) (Or.inl ⟨by rfl, ?_⟩) ?_ ?_
 rotate_left
 ·intro w'
  go_simp
  with_reducible rfl
 rotate_left
 ·simp only [Act.put, List.setIfInBounds_toArray, List.set_cons_zero, List.set_cons_succ, i64_w, i32_w]
  rfl
 refine take_ (i := 0) (N := some 8) (v := ?_) (a' := ?_) #[true, true, false, false, false, true, false, true, false, false, true, false, false, false] rfl rfl (take_ofW HT_.out HW_.out (by kernel_rfl)) (fun _ _ _ h => h) (Or.inl ⟨by rfl, ?_⟩) hHeld ?_ ?_
 rotate_left
 ·rintro w' ⟨s0, s1, s2, s3, s4⟩
  go_simp
  with_reducible rfl
 rotate_left
 ·simp only [Act.put, List.setIfInBounds_toArray, List.set_cons_zero, List.set_cons_succ, i64_w, i32_w]
  rfl
 refine take_ (i := 2) (N := some 10) (v := ?_) (a' := ?_) #[true, true, true, false, false, true, false, true, false, false, true, false, false, false] rfl rfl (take_ofW HT_.out HW_.out (by kernel_rfl)) (fun _ _ _ h => h) (Or.inl ⟨by rfl, ?_⟩) hHeld ?_ ?_
 rotate_left
 ·rintro w' ⟨s0, s1, s2, s3, s4⟩
  go_simp
  with_reducible rfl
 rotate_left
 ·simp only [Act.put, List.setIfInBounds_toArray, List.set_cons_zero, List.set_cons_succ, i64_w, i32_w]
  rfl
 refine pure_ (i := 3) (N := some 11) (v := ?_) (a' := ?_) #[true, true, true, true, false, true, false, true, false, false, true, false, false, false] rfl rfl (any_of HT_.out (by kernel_rfl)) (fun _ _ _ h => h) (Or.inl ⟨by rfl, ?_⟩) ?_ ?_
 rotate_left
 ·intro w'
  go_simp
  with_reducible rfl
 rotate_left
 ·simp only [Act.put, List.setIfInBounds_toArray, List.set_cons_zero, List.set_cons_succ, i64_w, i32_w]
  rfl
 refine take_ (i := 4) (N := some 12) (v := ?_) (a' := ?_) #[true, true, true, true, true, true, false, true, false, false, true, false, false, false] rfl rfl (take_ofW HT_.out HW_.out (by kernel_rfl)) (fun _ _ _ h => h) (Or.inl ⟨by rfl, ?_⟩) hHeld ?_ ?_
 rotate_left
 ·rintro w' ⟨s0, s1, s2, s3, s4⟩
  go_simp
  with_reducible rfl
 rotate_left
 ·simp only [Act.put, List.setIfInBounds_toArray, List.set_cons_zero, List.set_cons_succ, i64_w, i32_w]
  rfl
 refine take_ (i := 6) (N := some 14) (v := ?_) (a' := ?_) #[true, true, true, true, true, true, true, true, false, false, true, false, false, false] rfl rfl (take_ofW HT_.out HW_.out (by kernel_rfl)) (fun _ _ _ h => h) (Or.inl ⟨by rfl, ?_⟩) hHeld ?_ ?_
 rotate_left
 ·rintro w' ⟨s0, s1, s2, s3, s4⟩
  go_simp
  with_reducible rfl
 rotate_left
 ·simp only [Act.put, List.setIfInBounds_toArray, List.set_cons_zero, List.set_cons_succ, i64_w, i32_w]
  rfl
 refine take_ (i := 8) (N := some 16) (v := ?_) (a' := ?_) #[true, true, true, true, true, true, true, true, true, false, true, false, false, false] rfl rfl (take_ofW HT_.out HW_.out (by kernel_rfl)) (fun _ _ _ h => h) (Or.inl ⟨by rfl, ?_⟩) hHeld ?_ ?_
 rotate_left
 ·rintro w' ⟨s0, s1, s2, s3, s4⟩
  go_simp
  with_reducible rfl
 rotate_left
 ·simp only [Act.put, List.setIfInBounds_toArray, List.set_cons_zero, List.set_cons_succ, i64_w, i32_w]
  rfl
 refine take_ (i := 11) (N := some 19) (v := ?_) (a' := ?_) #[true, true, true, true, true, true, true, true, true, false, true, true, false, false] rfl rfl (take_ofW HT_.out HW_.out (by kernel_rfl)) (fun _ _ _ h => h) (Or.inl ⟨by rfl, ?_⟩) hHeld ?_ ?_
 rotate_left
 ·rintro w' ⟨s0, s1, s2, s3, s4⟩
  go_simp
  with_reducible rfl
 rotate_left
 ·simp only [Act.put, List.setIfInBounds_toArray, List.set_cons_zero, List.set_cons_succ, i64_w, i32_w]
  rfl
 refine one_ (i := 9) (N := some 17) #[true, true, true, true, true, true, true, true, true, true, true, true, false, false] rfl rfl (one_of HT_.out (by kernel_rfl)) (by decide) (fun K hK => ?_)
 by_cases qM : M.2 = 0
 rotate_left
 ·refine dies_ Tryz.func55 (by kernel_rfl) rfl #[.int .i64 k, .string bs] (by rfl) rfl rfl (by simp only [List.map_toArray, List.map_cons, List.map_nil]; rfl) ?_
  with_reducible refine (HSE.out _ qM).mono ?_
  rintro e v9 ⟨rfl, hb⟩
  refine ⟨_, rfl, ?_⟩
  replace HM := Lib.hid (HM.out.trans (Moved.of_below hb))
  obtain rfl : R = (⟨#[]⟩, M.2) := by rw [HR.out, if_neg qM]
  refine ⟨rfl, Or.inr ⟨qM, rfl⟩, fun h => absurd h qM, HM.out⟩
 refine goes_ Tryz.func55 (by kernel_rfl) rfl #[.int .i64 k, .string bs] (by rfl) rfl rfl (by simp only [List.map_toArray, List.map_cons, List.map_nil]; rfl) ?_
 with_reducible refine (HSO.out _ qM).mono ?_
 rintro e w1 ⟨rfl, hb⟩
 refine ⟨_, rfl, ?_⟩
 replace HC := Lib.hid (blk_below HC.out hb)
 replace HM := Lib.hid (HM.out.trans (Moved.of_below hb))
 clear hb
 refine hK.out _ _ ⟨(cell_of_blk (keep HM.out HV.out nV) rfl), (cell_of_blk (keep HM.out HB.out nB) rfl), (cell_of_blk (keep HM.out HB.out nB) rfl), (cell_of_blk (keep HM.out HB.out nB) rfl), (keep_cell HM.out Hv.out nad)⟩ (fun hHeld => ?_)
 clear hK K
 refine norm_ (a' := ?_) ?_ ?_
 rotate_left
 ·show Act.put _ (some 17) _ = _
  simp only [Act.put, List.setIfInBounds_toArray, List.set_cons_zero, List.set_cons_succ, i64_w, i32_w]
  rfl
 refine one_ (i := 12) (N := some 20) #[true, true, true, true, true, true, true, true, true, true, true, true, true, false] rfl rfl (one_of HT_.out (by kernel_rfl)) (by decide) (fun K hK => ?_)
 refine goes_ Tryz.func66 (by kernel_rfl) rfl #[.string v, .string M.1, .string bg] (by rfl) rfl rfl (by simp only [List.map_toArray, List.map_cons, List.map_nil]; rfl) ?_
 with_reducible refine (HVF.out _).mono ?_
 rintro e w2 ⟨rfl, hb⟩
 refine ⟨_, rfl, ?_⟩
 replace HC := Lib.hid (blk_below HC.out hb)
 replace HM := Lib.hid (HM.out.trans (Moved.of_below hb))
 clear hb
 refine hK.out _ _ ⟨(cell_of_blk (keep HM.out HV.out nV) rfl), (cell_of_blk (keep HM.out HB.out nB) rfl), (cell_of_blk (keep HM.out HB.out nB) rfl), (cell_of_blk (keep HM.out HB.out nB) rfl), (keep_cell HM.out Hv.out nad)⟩ (fun hHeld => ?_)
 clear hK K
 refine norm_ (a' := ?_) ?_ ?_
 rotate_left
 ·show Act.put _ (some 20) _ = _
  simp only [Act.put, List.setIfInBounds_toArray, List.set_cons_zero, List.set_cons_succ, i64_w, i32_w]
  rfl
 refine one_ (i := 13) (N := some 21) #[true, true, true, true, true, true, true, true, true, true, true, true, true, true] rfl rfl (one_of HT_.out (by kernel_rfl)) (by decide) (fun K hK => ?_)
 by_cases qV : vc = 0
 rotate_left
 ·refine dies_ Tryz.func65 (by kernel_rfl) rfl #[.int .i64 0, .int .i64 vc] (by rfl) rfl rfl (by simp only [List.map_toArray, List.map_cons, List.map_nil]; rfl) ?_
  with_reducible refine (mustI_err _ _ qV _).mono ?_
  rintro e v9 ⟨rfl, rfl⟩
  refine ⟨_, rfl, ?_⟩
  obtain rfl : R = (⟨#[]⟩, vc) := by rw [HR.out, if_pos qM, if_neg qV]
  refine ⟨rfl, Or.inr ⟨qV, rfl⟩, fun h => absurd h qV, HM.out⟩
 subst qV
 refine goes_ Tryz.func65 (by kernel_rfl) rfl #[.int .i64 0, .int .i64 0] (by rfl) rfl rfl (by simp only [List.map_toArray, List.map_cons, List.map_nil]; rfl) ?_
 with_reducible refine (mustI_ok _ _).mono ?_
 rintro e w3 ⟨rfl, rfl⟩
 refine ⟨_, rfl, ?_⟩
 refine hK.out _ _ ⟨(cell_of_blk (keep HM.out HV.out nV) rfl), (cell_of_blk (keep HM.out HB.out nB) rfl), (cell_of_blk (keep HM.out HB.out nB) rfl), (cell_of_blk (keep HM.out HB.out nB) rfl), (keep_cell HM.out Hv.out nad)⟩ (fun hHeld => ?_)
 clear hK K
 refine norm_ (a' := ?_) ?_ ?_
 rotate_left
 ·show Act.put _ (some 21) _ = _
  simp only [Act.put, List.setIfInBounds_toArray, List.set_cons_zero, List.set_cons_succ, i64_w, i32_w]
  rfl
 refine done_ (done_of HT_.out (by kernel_rfl)) ?_
 clear HT_ HSO HSE HVF
 have c0 : w3.cell? ⟨St, 0, none⟩ = some (.string st) := cell_of_blk (keep HM.out HS.out nS) rfl
 have c1 : w3.cell? ⟨Ep, 0, none⟩ = some (.int .i64 en) := cell_of_blk (keep HM.out HE.out nE) rfl
 have c2 : w3.cell? ⟨B, 0, none⟩ = some (.int .i64 k) := cell_of_blk (keep HM.out HB.out nB) rfl
 go_wp2_with fail
 refine (HBk.out _).mono ?_
 rintro e w4 ⟨rfl, hb⟩
 clear c0 c1 c2 HBk
 replace HC := Lib.hid (blk_below HC.out hb)
 replace HM := Lib.hid (HM.out.trans (Moved.of_below hb))
 clear hb
 by_cases qB : Bk.2 = 0
 rotate_left
 ·go_wp2_with fail
  refine (must_err _ _ qB _).mono ?_
  rintro e v1 ⟨rfl, rfl⟩
  obtain rfl : R = (⟨#[]⟩, Bk.2) := by rw [HR.out, if_pos qM, if_pos trivial, if_neg qB]
  go_wp2
  exact ⟨rfl, Or.inr ⟨qB, rfl⟩, fun h => absurd h qB, HM.out⟩
 go_wp2_with fail
 try rw [qB]
 refine (must_ok _ _).mono ?_
 rintro e v1 ⟨rfl, rfl⟩
 go_wp2_with fail
 refine (HKy.out _).mono ?_
 rintro e w5 ⟨rfl, hb⟩
 replace HC := Lib.hid (blk_below HC.out hb)
 replace HM := Lib.hid (HM.out.trans (Moved.of_below hb))
 clear hb
 by_cases qK : Ky.2 = 0
 rotate_left
 ·go_wp2_with fail
  refine (must_err _ _ qK _).mono ?_
  rintro e v2 ⟨rfl, rfl⟩
  obtain rfl : R = (⟨#[]⟩, Ky.2) := by rw [HR.out, if_pos qM, if_pos trivial, if_pos qB, if_neg qK]
  go_wp2
  exact ⟨rfl, Or.inr ⟨qK, rfl⟩, fun h => absurd h qK, HM.out⟩
 go_wp2_with fail
 try rw [qK]
 refine (must_ok _ _).mono ?_
 rintro e v2 ⟨rfl, rfl⟩
 have c3 : v2.cell? ⟨B, 1, none⟩ = some (.string bs) := cell_of_blk (keep HM.out HB.out nB) rfl
 go_wp2_with fail
 refine (HOp.out _).mono ?_
 rintro e w6 ⟨rfl, hb⟩
 clear c3 HOp
 replace HC := Lib.hid (blk_below HC.out hb)
 replace HM := Lib.hid (HM.out.trans (Moved.of_below hb))
 clear hb
 by_cases qO : Op.2 = 0
 rotate_left
 ·go_wp2_with fail
  refine (must_err _ _ qO _).mono ?_
  rintro e v3 ⟨rfl, rfl⟩
  obtain rfl : R = (⟨#[]⟩, Op.2) := by rw [HR.out, if_pos qM, if_pos trivial, if_pos qB, if_pos qK, if_neg qO]
  go_wp2
  exact ⟨rfl, Or.inr ⟨qO, rfl⟩, fun h => absurd h qO, HM.out⟩
 go_wp2_with fail
 try rw [qO]
 refine (must_ok _ _).mono ?_
 rintro e v3 ⟨rfl, rfl⟩
 replace HR : Hid (R = afterF l pa) := Lib.hid (by rw [HR.out, if_pos qM, if_pos trivial, if_pos qB, if_pos qK, if_pos qO])
 go_wp2_with fail
 refine (HPt.out qO _).mono ?_
 rintro e w7 ⟨v0, rfl, hl, hb⟩
 replace HC := Lib.hid (blk_below HC.out hb)
 replace HM := Lib.hid (HM.out.trans (Moved.of_below hb))
 clear hb
 have HL := Lib.hid hl
 obtain ⟨LA, lc, rfl⟩ := Kd.R_slice hl
 clear hl HPt
 go_wp2_with fail
 refine (mustL_ok _ _ _ _).mono ?_
 rintro e w8 ⟨rfl, rfl⟩
 go_wp2_with fail
 have hb : Below w8.heap.size w8 w8.drew := below_drew (Below.refl _ _)
 replace HC := Lib.hid (blk_below HC.out hb)
 replace HM := Lib.hid (HM.out.trans (Moved.of_below hb))
 clear hb
 by_cases q2 : l.length = 2
 rotate_left
 ·obtain rfl : R = (⟨#[]⟩, 7) := by rw [HR.out, after_ne q2]
  have t2 : ((l.length : Int) != 2) = true := by rw [bne_iff_ne]; omega
  refine start_ (n := 14) (S := fun w' => True) (ds := []) #[false, false, false, false, false, false, false, false, false, false, false, false, false, false] (by kernel_rfl) rfl rfl trivial (fun hHeld => ?_)
  refine with_tabW op1.tab3 op1.bits3 (fun HT_ HW_ => ?_)
  refine pure_ (i := 0) (N := some 46) (v := ?_) (a' := ?_) #[true, false, false, false, false, false, false, false, false, false, false, false, false, false] rfl rfl (any_of HT_.out (by kernel_rfl)) (fun _ _ _ h => h) (Or.inl ⟨by rfl, ?_⟩) ?_ ?_
  rotate_left
  ·intro w'
   go_simp
   with_reducible rfl
  rotate_left
  ·simp only [Act.put, List.setIfInBounds_toArray, List.set_cons_zero, List.set_cons_succ, i64_w, i32_w]
   rfl
  refine pure_ (i := 1) (N := some 47) (v := ?_) (a' := ?_) #[true, true, false, false, false, false, false, false, false, false, false, false, false, false] rfl rfl (any_of HT_.out (by kernel_rfl)) (fun _ _ _ h => h) (Or.inl ⟨by rfl, ?_⟩) ?_ ?_
  rotate_left
  ·intro w'
   go_simp
   with_reducible rfl
  rotate_left
  ·simp only [Act.put, List.setIfInBounds_toArray, List.set_cons_zero, List.set_cons_succ, i64_w, i32_w]
   rfl
  refine pure_ (i := 2) (N := some 48) (v := ?_) (a' := ?_) #[true, true, true, false, false, false, false, false, false, false, false, false, false, false] rfl rfl (any_of HT_.out (by kernel_rfl)) (fun _ _ _ h => h) (Or.inl ⟨by rfl, ?_⟩) ?_ ?_
  rotate_left
  ·intro w'
   go_simp
   with_reducible rfl
  rotate_left
  ·simp only [Act.put, List.setIfInBounds_toArray, List.set_cons_zero, List.set_cons_succ, i64_w, i32_w]
   rfl
  refine pure_ (i := 3) (N := some 49) (v := ?_) (a' := ?_) #[true, true, true, true, false, false, false, false, false, false, false, false, false, false] rfl rfl (any_of HT_.out (by kernel_rfl)) (fun _ _ _ h => h) (Or.inl ⟨by rfl, ?_⟩) ?_ ?_
  rotate_left
  ·intro w'
   go_simp
   with_reducible rfl
  rotate_left
  ·simp only [Act.put, List.setIfInBounds_toArray, List.set_cons_zero, List.set_cons_succ, i64_w, i32_w]
   rfl
  refine pure_ (i := 4) (N := some 50) (v := undef) (a' := ?_) #[true, true, true, true, true, false, false, false, false, false, false, false, false, false] rfl rfl (any_of HT_.out (by kernel_rfl)) (fun _ _ _ h => h) (Or.inr ⟨by rfl, rfl⟩) ?_ ?_
  rotate_left
  ·simp only [Act.put, List.setIfInBounds_toArray, List.set_cons_zero, List.set_cons_succ, i64_w, i32_w]
   rfl
  refine pure_ (i := 5) (N := some 51) (v := undef) (a' := ?_) #[true, true, true, true, true, true, false, false, false, false, false, false, false, false] rfl rfl (any_of HT_.out (by kernel_rfl)) (fun _ _ _ h => h) (Or.inr ⟨by rfl, rfl⟩) ?_ ?_
  rotate_left
  ·simp only [Act.put, List.setIfInBounds_toArray, List.set_cons_zero, List.set_cons_succ, i64_w, i32_w]
   rfl
  refine pure_ (i := 6) (N := some 52) (v := undef) (a' := ?_) #[true, true, true, true, true, true, true, false, false, false, false, false, false, false] rfl rfl (any_of HT_.out (by kernel_rfl)) (fun _ _ _ h => h) (Or.inr ⟨by rfl, rfl⟩) ?_ ?_
  rotate_left
  ·simp only [Act.put, List.setIfInBounds_toArray, List.set_cons_zero, List.set_cons_succ, i64_w, i32_w]
   rfl
  refine pure_ (i := 7) (N := some 53) (v := undef) (a' := ?_) #[true, true, true, true, true, true, true, true, false, false, false, false, false, false] rfl rfl (any_of HT_.out (by kernel_rfl)) (fun _ _ _ h => h) (Or.inr ⟨by rfl, rfl⟩) ?_ ?_
  rotate_left
  ·simp only [Act.put, List.setIfInBounds_toArray, List.set_cons_zero, List.set_cons_succ, i64_w, i32_w]
   rfl
  refine pure_ (i := 8) (N := some 54) (v := undef) (a' := ?_) #[true, true, true, true, true, true, true, true, true, false, false, false, false, false] rfl rfl (any_of HT_.out (by kernel_rfl)) (fun _ _ _ h => h) (Or.inr ⟨by rfl, rfl⟩) ?_ ?_
  rotate_left
  ·simp only [Act.put, List.setIfInBounds_toArray, List.set_cons_zero, List.set_cons_succ, i64_w, i32_w]
   rfl
  refine pure_ (i := 9) (N := some 55) (v := undef) (a' := ?_) #[true, true, true, true, true, true, true, true, true, true, false, false, false, false] rfl rfl (any_of HT_.out (by kernel_rfl)) (fun _ _ _ h => h) (Or.inr ⟨by rfl, rfl⟩) ?_ ?_
  rotate_left
  ·simp only [Act.put, List.setIfInBounds_toArray, List.set_cons_zero, List.set_cons_succ, i64_w, i32_w]
   rfl
  refine pure_ (i := 10) (N := some 56) (v := undef) (a' := ?_) #[true, true, true, true, true, true, true, true, true, true, true, false, false, false] rfl rfl (any_of HT_.out (by kernel_rfl)) (fun _ _ _ h => h) (Or.inr ⟨by rfl, rfl⟩) ?_ ?_
  rotate_left
  ·simp only [Act.put, List.setIfInBounds_toArray, List.set_cons_zero, List.set_cons_succ, i64_w, i32_w]
   rfl
  refine pure_ (i := 11) (N := some 57) (v := undef) (a' := ?_) #[true, true, true, true, true, true, true, true, true, true, true, true, false, false] rfl rfl (any_of HT_.out (by kernel_rfl)) (fun _ _ _ h => h) (Or.inr ⟨by rfl, rfl⟩) ?_ ?_
  rotate_left
  ·simp only [Act.put, List.setIfInBounds_toArray, List.set_cons_zero, List.set_cons_succ, i64_w, i32_w]
   rfl
  refine pure_ (i := 12) (N := some 58) (v := undef) (a' := ?_) #[true, true, true, true, true, true, true, true, true, true, true, true, true, false] rfl rfl (any_of HT_.out (by kernel_rfl)) (fun _ _ _ h => h) (Or.inr ⟨by rfl, rfl⟩) ?_ ?_
  rotate_left
  ·simp only [Act.put, List.setIfInBounds_toArray, List.set_cons_zero, List.set_cons_succ, i64_w, i32_w]
   rfl
  refine pure_ (i := 13) (N := some 59) (v := ?_) (a' := ?_) #[true, true, true, true, true, true, true, true, true, true, true, true, true, true] rfl rfl (any_of HT_.out (by kernel_rfl)) (fun _ _ _ h => h) (Or.inl ⟨by rfl, ?_⟩) ?_ ?_
  rotate_left
  ·intro w'
   go_simp
   with_reducible rfl
  rotate_left
  ·simp only [Act.put, List.setIfInBounds_toArray, List.set_cons_zero, List.set_cons_succ, i64_w, i32_w]
   rfl
  refine done_ (done_of HT_.out (by kernel_rfl)) ?_
  clear HT_
  go_wp2
  exact ⟨rfl, Or.inr ⟨by decide, rfl⟩, fun h => absurd h (by decide), HM.out⟩
 obtain ⟨x, y, rfl⟩ : ∃ x y, l = [x, y] := by
  match l, q2 with
  | [x, y], _ => exact ⟨x, y, rfl⟩
 clear q2 hll
 obtain ⟨la, lc2, hla, hlc, hx0, hx1⟩ := two_of HL.out
 obtain ⟨rfl, rfl⟩ : LA = some ⟨la, 0, none⟩ ∧ lc = lc2 := by simpa using hla
 clear hla HL
 have HX0 := Lib.hid (pw_cell_below (below_drew (Below.refl _ _)) hx0)
 have HX1 := Lib.hid (pw_cell_below (below_drew (Below.refl _ _)) hx1)
 have HWX := Lib.hid (fun W => words_call x (by have := Hls.out x (by simp); omega) W)
 have HWY := Lib.hid (fun W => words_call y (by have := Hls.out y (by simp); omega) W)
 replace HR : Hid (R = if (wordsF x).2 = 0 then (if (wordsF x).1 = pa then (if (wordsF y).2 = 0 then ((wordsF y).1, 0) else (⟨#[]⟩, (wordsF y).2)) else (⟨#[]⟩, 7)) else (⟨#[]⟩, (wordsF x).2)) := HR
 generalize wordsF x = X at HWX HR
 generalize wordsF y = Y at HWY HR
 clear hx0 hx1
 refine start_ (n := 14) (S := fun w' => w'.cell? ⟨la, 0, none⟩ = some (.string x) ∧ w'.cell? ⟨P, 0, none⟩ = some (.string pa)) (ds := []) #[false, false, false, false, false, false, false, false, false, false, false, false, false, false] (by kernel_rfl) rfl rfl ⟨HX0.out, (cell_of_blk (keep HM.out HP.out nP) rfl)⟩ (fun hHeld => ?_)
 refine with_tabW op1.tab3 op1.bits3 (fun HT_ HW_ => ?_)
 refine pure_ (i := 0) (N := some 46) (v := ?_) (a' := ?_) #[true, false, false, false, false, false, false, false, false, false, false, false, false, false] rfl rfl (any_of HT_.out (by kernel_rfl)) (fun _ _ _ h => h) (Or.inl ⟨by rfl, ?_⟩) ?_ ?_
 rotate_left
 ·intro w'
  go_simp
  with_reducible rfl
 rotate_left
 ·simp only [Act.put, List.setIfInBounds_toArray, List.set_cons_zero, List.set_cons_succ, i64_w, i32_w]
  rfl
 refine pure_ (i := 1) (N := some 47) (v := ?_) (a' := ?_) #[true, true, false, false, false, false, false, false, false, false, false, false, false, false] rfl rfl (any_of HT_.out (by kernel_rfl)) (fun _ _ _ h => h) (Or.inl ⟨by rfl, ?_⟩) ?_ ?_
 rotate_left
 ·intro w'
  go_simp
  with_reducible rfl
 rotate_left
 ·simp only [Act.put, List.setIfInBounds_toArray, List.set_cons_zero, List.set_cons_succ, i64_w, i32_w]
  rfl
 refine pure_ (i := 2) (N := some 48) (v := ?_) (a' := ?_) #[true, true, true, false, false, false, false, false, false, false, false, false, false, false] rfl rfl (any_of HT_.out (by kernel_rfl)) (fun _ _ _ h => h) (Or.inl ⟨by rfl, ?_⟩) ?_ ?_
 rotate_left
 ·intro w'
  go_simp
  with_reducible rfl
 rotate_left
 ·simp only [Act.put, List.setIfInBounds_toArray, List.set_cons_zero, List.set_cons_succ, i64_w, i32_w]
  rfl
 refine pure_ (i := 3) (N := some 49) (v := ?_) (a' := ?_) #[true, true, true, true, false, false, false, false, false, false, false, false, false, false] rfl rfl (any_of HT_.out (by kernel_rfl)) (fun _ _ _ h => h) (Or.inl ⟨by rfl, ?_⟩) ?_ ?_
 rotate_left
 ·intro w'
  go_simp
  with_reducible rfl
 rotate_left
 ·simp only [Act.put, List.setIfInBounds_toArray, List.set_cons_zero, List.set_cons_succ, i64_w, i32_w]
  rfl
 refine pure_ (i := 4) (N := some 50) (v := ?_) (a' := ?_) #[true, true, true, true, true, false, false, false, false, false, false, false, false, false] rfl rfl (any_of HT_.out (by kernel_rfl)) (fun _ _ _ h => h) (Or.inl ⟨by rfl, ?_⟩) ?_ ?_
 rotate_left
 ·intro w'
  go_simp
  with_reducible rfl
 rotate_left
 ·simp only [Act.put, List.setIfInBounds_toArray, List.set_cons_zero, List.set_cons_succ, i64_w, i32_w]
  rfl
 refine pure_ (i := 5) (N := some 51) (v := ?_) (a' := ?_) #[true, true, true, true, true, true, false, false, false, false, false, false, false, false] rfl rfl (any_of HT_.out (by kernel_rfl)) (fun _ _ _ h => h) (Or.inl ⟨by rfl, ?_⟩) ?_ ?_
 rotate_left
 ·intro w'
  go_simp
  with_reducible rfl
 rotate_left
 ·simp only [Act.put, List.setIfInBounds_toArray, List.set_cons_zero, List.set_cons_succ, i64_w, i32_w]
  rfl
 refine take_ (i := 6) (N := some 52) (v := ?_) (a' := ?_) #[true, true, true, true, true, true, true, false, false, false, false, false, false, false] rfl rfl (take_ofW HT_.out HW_.out (by kernel_rfl)) (fun _ _ _ h => h) (Or.inl ⟨by rfl, ?_⟩) hHeld ?_ ?_
 rotate_left
 ·rintro w' ⟨s0, s1⟩
  go_simp
  with_reducible rfl
 rotate_left
 ·simp only [Act.put, List.setIfInBounds_toArray, List.set_cons_zero, List.set_cons_succ, i64_w, i32_w]
  rfl
 refine take_ (i := 11) (N := some 57) (v := ?_) (a' := ?_) #[true, true, true, true, true, true, true, false, false, false, false, true, false, false] rfl rfl (take_ofW HT_.out HW_.out (by kernel_rfl)) (fun _ _ _ h => h) (Or.inl ⟨by rfl, ?_⟩) hHeld ?_ ?_
 rotate_left
 ·rintro w' ⟨s0, s1⟩
  go_simp
  with_reducible rfl
 rotate_left
 ·simp only [Act.put, List.setIfInBounds_toArray, List.set_cons_zero, List.set_cons_succ, i64_w, i32_w]
  rfl
 refine one_ (i := 7) (N := some 53) #[true, true, true, true, true, true, true, true, false, false, false, true, false, false] rfl rfl (one_of HT_.out (by kernel_rfl)) (by decide) (fun K hK => ?_)
 refine goes_ Tryz.func71 (by kernel_rfl) rfl #[.string x] (by rfl) rfl rfl (by simp only [List.map_toArray, List.map_cons, List.map_nil]; rfl) ?_
 with_reducible refine (HWX.out _).mono ?_
 rintro e w10 ⟨rfl, hb⟩
 refine ⟨_, rfl, ?_⟩
 replace HX0 := Lib.hid (pw_cell_below hb HX0.out)
 replace HX1 := Lib.hid (pw_cell_below hb HX1.out)
 replace HC := Lib.hid (blk_below HC.out hb)
 replace HM := Lib.hid (HM.out.trans (Moved.of_below hb))
 clear hb
 refine hK.out _ _ ⟨HX0.out, (cell_of_blk (keep HM.out HP.out nP) rfl)⟩ (fun hHeld => ?_)
 clear hK K
 refine norm_ (a' := ?_) ?_ ?_
 rotate_left
 ·show Act.put _ (some 53) _ = _
  simp only [Act.put, List.setIfInBounds_toArray, List.set_cons_zero, List.set_cons_succ, i64_w, i32_w]
  rfl
 refine pure_ (i := 8) (N := some 54) (v := ?_) (a' := ?_) #[true, true, true, true, true, true, true, true, true, false, false, true, false, false] rfl rfl (any_of HT_.out (by kernel_rfl)) (fun _ _ _ h => h) (Or.inl ⟨by rfl, ?_⟩) ?_ ?_
 rotate_left
 ·intro w'
  go_simp
  with_reducible rfl
 rotate_left
 ·simp only [Act.put, List.setIfInBounds_toArray, List.set_cons_zero, List.set_cons_succ, i64_w, i32_w]
  rfl
 refine pure_ (i := 9) (N := some 55) (v := ?_) (a' := ?_) #[true, true, true, true, true, true, true, true, true, true, false, true, false, false] rfl rfl (any_of HT_.out (by kernel_rfl)) (fun _ _ _ h => h) (Or.inl ⟨by rfl, ?_⟩) ?_ ?_
 rotate_left
 ·intro w'
  go_simp
  with_reducible rfl
 rotate_left
 ·simp only [Act.put, List.setIfInBounds_toArray, List.set_cons_zero, List.set_cons_succ, i64_w, i32_w]
  rfl
 refine one_ (i := 10) (N := some 56) #[true, true, true, true, true, true, true, true, true, true, true, true, false, false] rfl rfl (one_of HT_.out (by kernel_rfl)) (by decide) (fun K hK => ?_)
 by_cases qX : X.2 = 0
 rotate_left
 ·refine dies_ Tryz.func49 (by kernel_rfl) rfl #[.string X.1, .int .i64 X.2] (by rfl) rfl rfl (by simp only [List.map_toArray, List.map_cons, List.map_nil]; rfl) ?_
  with_reducible refine (must_err _ _ qX _).mono ?_
  rintro e v9 ⟨rfl, rfl⟩
  refine ⟨_, rfl, ?_⟩
  obtain rfl : R = (⟨#[]⟩, X.2) := by rw [HR.out, if_neg qX]
  refine ⟨rfl, Or.inr ⟨qX, rfl⟩, fun h => absurd h qX, HM.out⟩
 try rw [qX]
 refine goes_ Tryz.func49 (by kernel_rfl) rfl #[.string X.1, .int .i64 0] (by rfl) rfl rfl (by simp only [List.map_toArray, List.map_cons, List.map_nil]; rfl) ?_
 with_reducible refine (must_ok _ _).mono ?_
 rintro e w11 ⟨rfl, rfl⟩
 refine ⟨_, rfl, ?_⟩
 refine hK.out _ _ ⟨HX0.out, (cell_of_blk (keep HM.out HP.out nP) rfl)⟩ (fun hHeld => ?_)
 clear hK K
 refine norm_ (a' := ?_) ?_ ?_
 rotate_left
 ·show Act.put _ (some 56) _ = _
  simp only [Act.put, List.setIfInBounds_toArray, List.set_cons_zero, List.set_cons_succ, i64_w, i32_w]
  rfl
 refine pure_ (i := 12) (N := some 58) (v := ?_) (a' := ?_) #[true, true, true, true, true, true, true, true, true, true, true, true, true, false] rfl rfl (any_of HT_.out (by kernel_rfl)) (fun _ _ _ h => h) (Or.inl ⟨by rfl, ?_⟩) ?_ ?_
 rotate_left
 ·intro w'
  go_simp
  with_reducible rfl
 rotate_left
 ·simp only [Act.put, List.setIfInBounds_toArray, List.set_cons_zero, List.set_cons_succ, i64_w, i32_w]
  rfl
 refine pure_ (i := 13) (N := some 59) (v := ?_) (a' := ?_) #[true, true, true, true, true, true, true, true, true, true, true, true, true, true] rfl rfl (any_of HT_.out (by kernel_rfl)) (fun _ _ _ h => h) (Or.inl ⟨by rfl, ?_⟩) ?_ ?_
 rotate_left
 ·intro w'
  go_simp
  with_reducible rfl
 rotate_left
 ·simp only [Act.put, List.setIfInBounds_toArray, List.set_cons_zero, List.set_cons_succ, i64_w, i32_w]
  rfl
 refine done_ (done_of HT_.out (by kernel_rfl)) ?_
 clear HT_
 by_cases qP : X.1 = pa
 rotate_left
 ·have t3 : (X.1.toList == pa.toList) = false := by rw [beq_eq_false_iff_ne]; exact fun h => qP ((toL _ _).1 h)
  obtain rfl : R = (⟨#[]⟩, 7) := by rw [HR.out, if_pos qX, if_neg qP]
  clear qP HR HWY
  rw [t3, Bool.not_false]
  go_wp2
  exact ⟨rfl, Or.inr ⟨by decide, rfl⟩, fun h => absurd h (by decide), HM.out⟩
 have t3 : (X.1.toList == pa.toList) = true := by rw [qP]; simp
 replace HR : Hid (R = if Y.2 = 0 then (Y.1, 0) else (⟨#[]⟩, Y.2)) := Lib.hid (by rw [HR.out, if_pos qX, if_pos qP])
 clear qP
 rw [t3, Bool.not_true]
 have c5 := HX1.out
 go_wp2_with fail
 refine (HWY.out _).mono ?_
 rintro e w12 ⟨rfl, hb⟩
 clear c5
 replace HC := Lib.hid (blk_below HC.out hb)
 replace HM := Lib.hid (HM.out.trans (Moved.of_below hb))
 clear hb
 by_cases qY : Y.2 = 0
 rotate_left
 ·go_wp2_with fail
  refine (must_err _ _ qY _).mono ?_
  rintro e v4 ⟨rfl, rfl⟩
  obtain rfl : R = (⟨#[]⟩, Y.2) := by rw [HR.out, if_neg qY]
  go_wp2
  exact ⟨rfl, Or.inr ⟨qY, rfl⟩, fun h => absurd h qY, HM.out⟩
 go_wp2_with fail
 try rw [qY]
 refine (must_ok _ _).mono ?_
 rintro e v4 ⟨rfl, rfl⟩
 have c6 := cell_of_blk (j := 0) (v := .string ⟨#[]⟩) HC.out rfl
 have z6 := free_of_blk (j := 0) HC.out
 go_wp2
 have g1 := blk_setCell (j := 0) (u := .string Y.1) HC.out
 have g2 := HM.out.trans (Moved.setCell (S := (· = C)) v4 (a := ⟨C, 0, none⟩) rfl (.string Y.1))
 obtain rfl : R = (Y.1, 0) := by rw [HR.out, if_pos qY]
 clear c6 z6
 generalize v4.setCell ⟨C, 0, none⟩ (.string Y.1) = V2 at g1 g2 ⊢
 go_end0
 exact ⟨Or.inl ⟨rfl, rfl⟩, fun _ => g1, g2⟩
end Go.Proofs.YtphehoidkmficaaGreatDoor
end
section

namespace Go.Proofs.YtphehoidkmficaaGreatDoor
open Go.RowKit Go.Proofs.YtphehoidkmficaaGreatDoorW.PrintWords Go.Proofs.YtphehoidkmficaaGreatDoorW.PrintLast Go.Proofs.YtphehoidkmficaaGreatDoor.Ref Go.Proofs.YtphehoidkmficaaGreatDoor.PA Go.Proofs.YtphehoidkmficaaGreatDoor.PB
set_option linter.unusedVariables false
set_option linter.unusedSimpArgs false
theorem ev_some {α : Type} {g : Nat → Option α} {r : α} (h : Ev g r) : ∃ k, g k = some r := by
 obtain ⟨k, hk⟩ := h
 exact ⟨k, hk k (Nat.le_refl _)⟩
theorem atom_call (n : Nat) (h : n < 18446744073709551616) (W : World) : Calls Tryz.prog 101 #[.int .u64 n] W fun e w' => e = .returned (.string (atomB n)) ∧ Below W.heap.size W w' := by
 obtain ⟨k, hk⟩ := ev_some (ofAtom_ev n h)
 exact term_OfAtom.calls k n _ W hk
theorem text_call {s : ByteArray} (h : s.size ≤ 3000) : Tells 51 #[.string s] (textB s, 0) := fun W => by
 have h1 : textF s = (textB s, 0) := by
  unfold textF
  rw [if_neg]
  have := size_numB (n := s.size) (by omega)
  unfold textB
  rw [ByteArray.size_append, ByteArray.size_append, size_one]; omega
 obtain ⟨k, hk⟩ := ev_some (ofText_ev s (by omega))
 rw [h1] at hk
 exact term_OfText.calls k s _ _ W hk
theorem pair_call {a b : ByteArray} (ha : a.size ≤ 1000000) (hb : b.size ≤ 1000000) : Tells 50 #[.string a, .string b] (pairF a b) := fun W => term_OfPair.calls a b _ _ W (pair_val a b (by omega) (by omega))
theorem seal_val {a b : ByteArray} (ha : a.size ≤ 1000000) (hb : b.size ≤ 1000000) : term_Seal.f a b = some (sealF a b) := by
 unfold term_Seal.f
 rw [of_val _ _ (by rw [size_one]; omega) (by simp) (by intro s hs; simp at hs; rcases hs with rfl | rfl <;> omega)]
 rfl
theorem seal_call {a b : ByteArray} (ha : a.size ≤ 1000000) (hb : b.size ≤ 1000000) : Tells 52 #[.string a, .string b] (sealF a b) := fun W => term_Seal.calls a b _ _ W (seal_val ha hb)
theorem sign_val {a b : ByteArray} (ha : a.size ≤ 1000000) (hb : b.size ≤ 1000000) : term_Sign.f a b = some (signF a b) := by
 unfold term_Sign.f
 rw [of_val _ _ (by rw [size_one]; omega) (by simp) (by intro s hs; simp at hs; rcases hs with rfl | rfl <;> omega)]
 rfl
theorem sign_call {a b : ByteArray} (ha : a.size ≤ 1000000) (hb : b.size ≤ 1000000) : Tells 54 #[.string a, .string b] (signF a b) := fun W => term_Sign.calls a b _ _ W (sign_val ha hb)
theorem key_call {s : ByteArray} (h : s.size ≤ 1000000) : Tells 53 #[.string s] (keyF s) := fun W => by
 obtain ⟨k, hk⟩ := ev_some (key_ev s (by omega))
 exact regress_Key.calls k s _ _ W hk
theorem back_call {s : ByteArray} (h : s.size ≤ 1000000) (n : Int) (hn : n ≤ 9223372036854775807) : Tells 67 #[.string s, .int .i64 n] (backF s n) := fun W => by
 obtain ⟨k, hk⟩ := ev_some (back_ev s n (by omega) hn)
 exact regress_Back.calls k s n _ _ W hk
theorem kind_call {s : ByteArray} (h : s.size ≤ 1000000) (W : World) : Calls Tryz.prog 46 #[.string s] W fun e w' => e = .returned (.int .u8 (kindF s)) ∧ Below W.heap.size W w' := term_Kind.calls s _ W (kind_val s (by omega))
theorem blk_new (w : World) (o : Obj) : (w.alloc o).heap[w.heap.size]? = some o := by
 show (w.heap.push o)[w.heap.size]? = some o
 exact Array.getElem?_push_size
theorem blk_at (w : World) (o : Obj) (b : Nat) (hb : b = w.heap.size) : (w.alloc o).heap[b]? = some o := by subst hb; exact blk_new w o
theorem blk_alloc {w : World} {b : Nat} {o : Obj} (h : w.heap[b]? = some o) (o' : Obj) : (w.alloc o').heap[b]? = some o := by
 rw [Below.heap_alloc _ _ _ (by rw [Array.getElem?_eq_some_iff] at h; exact h.1)]; exact h
theorem u64_small {k : Nat} (h : k ≤ 7) : IntKind.u64.wrap (k : Int) = (k : Int) := by
 rw [IntKind.wrap_u64]; omega
theorem signed_ok {k : Nat} (h : k ≤ 7) {s : ByteArray} (hs : s.size ≤ 1000000) (W : World) (h0 : (signedF k s).2 = 0) :
  Calls Tryz.prog 55 #[.int .i64 k, .string s] W fun e w' => e = .returned (.string (signedF k s).1) ∧ Below W.heap.size W w' := by
 have hA := atom_call k (by omega)
 have hP : Tells 50 #[.string (atomB k), .string s] (signedF k s) := pair_call (by have := size_atomB (n := k) (by omega); omega) hs
 generalize signedF k s = R at *
 generalize atomB k = a at *
 have HA := Lib.hid hA
 have HP := Lib.hid hP
 have hk := u64_small h
 clear hA hP
 go_enter Tryz.func55, Tryz.ntmps55
 go_wp2_with fail
 refine (HA.out _).mono ?_
 rintro e w1 ⟨rfl, hb⟩
 have HB := Lib.hid hb
 clear hb
 go_wp2_with fail
 refine (HP.out _).mono ?_
 rintro e w2 ⟨rfl, hb⟩
 replace HB := Lib.hid (below_step HB.out hb)
 clear hb
 go_wp2_with fail
 try rw [h0]
 refine (must_ok _ _).mono ?_
 rintro e w3 ⟨rfl, rfl⟩
 go_wp2
 go_ret
 exact ⟨rfl, HB.out⟩
theorem signed_err {k : Nat} (h : k ≤ 7) {s : ByteArray} (hs : s.size ≤ 1000000) (W : World) (h0 : (signedF k s).2 ≠ 0) :
  Calls Tryz.prog 55 #[.int .i64 k, .string s] W fun e w' => e = .panicked (failed (signedF k s).2) ∧ Below W.heap.size W w' := by
 have hA := atom_call k (by omega)
 have hP : Tells 50 #[.string (atomB k), .string s] (signedF k s) := pair_call (by have := size_atomB (n := k) (by omega); omega) hs
 generalize signedF k s = R at *
 generalize atomB k = a at *
 have HA := Lib.hid hA
 have HP := Lib.hid hP
 have hk := u64_small h
 clear hA hP
 go_enter Tryz.func55, Tryz.ntmps55
 go_wp2_with fail
 refine (HA.out _).mono ?_
 rintro e w1 ⟨rfl, hb⟩
 have HB := Lib.hid hb
 clear hb
 go_wp2_with fail
 refine (HP.out _).mono ?_
 rintro e w2 ⟨rfl, hb⟩
 replace HB := Lib.hid (below_step HB.out hb)
 clear hb
 go_wp2_with fail
 refine (must_err _ _ h0 _).mono ?_
 rintro e w3 ⟨rfl, rfl⟩
 go_wp2
 exact ⟨rfl, rfl, HB.out⟩
theorem epochs_call (n : Int) (W : World) : Calls Tryz.prog 45 #[.int .i64 n] W fun e w' => e = .returned (.bool (epochB n)) ∧ Below W.heap.size W w' := by
 have HB := Lib.hid (Below.refl W.heap.size W)
 by_cases h1 : 0 ≤ n
 ·by_cases h2 : n ≤ 7
  ·rw [show epochB n = true from decide_eq_true ⟨h1, h2⟩]
   have d1 : decide (0 ≤ n) = true := decide_eq_true h1
   have d2 : decide (n < 8) = true := decide_eq_true (by omega)
   clear h1 h2
   go_enter Tryz.func45, Tryz.ntmps45
   go_wp2
   go_ret
   exact ⟨rfl, HB.out⟩
  ·rw [show epochB n = false from decide_eq_false (fun h => h2 h.2)]
   have d1 : decide (0 ≤ n) = true := decide_eq_true h1
   have d2 : decide (n < 8) = false := decide_eq_false (by omega)
   clear h1 h2
   go_enter Tryz.func45, Tryz.ntmps45
   go_wp2
   go_ret
   exact ⟨rfl, HB.out⟩
 ·rw [show epochB n = false from decide_eq_false (fun h => h1 h.1)]
  have d1 : decide (0 ≤ n) = false := decide_eq_false h1
  clear h1
  go_enter Tryz.func45, Tryz.ntmps45
  go_wp2
  go_ret
  exact ⟨rfl, HB.out⟩
theorem rightBl_call (b : Bl) (hs : b.s.size ≤ 1000000) (hg : b.g.size ≤ 1000000) (W : World) :
  Calls Tryz.prog 19 #[.agg #[.int .i64 b.e, .string b.s, .string b.g]] W fun e w' => e = .returned (.bool (rightBl b)) ∧ Below W.heap.size W w' := by
 obtain ⟨e, s, g⟩ := b
 have HE := Lib.hid (epochs_call e)
 have HK1 := Lib.hid (fun W => kind_call (s := s) hs W)
 have HK2 := Lib.hid (fun W => kind_call (s := g) hg W)
 have HR : Hid (rightBl ⟨e, s, g⟩ = (epochB e && (decide (kindF s = 115) && decide (kindF g = 103)))) := Lib.hid rfl
 generalize rightBl ⟨e, s, g⟩ = R at *
 clear hs hg
 simp only
 generalize epochB e = E at *
 generalize kindF s = k1 at *
 generalize kindF g = k2 at *
 have HB0 : Hid (Below W.heap.size W (W.alloc (.cells #[.int .i64 e, .string s, .string g] 23))) := Lib.hid ((Below.refl _ _).alloc (Nat.le_refl _) _)
 go_enter Tryz.func19, Tryz.ntmps19
 go_wp2_with fail
 refine (HE.out _).mono ?_
 rintro e1 w1 ⟨rfl, hb⟩
 have HN : Hid (w1.heap[W.heap.size]? = some (.cells #[.int .i64 e, .string s, .string g] 23 (0, 0))) := Lib.hid (blk_below (blk_new _ _) hb)
 have HB := Lib.hid (below_step HB0.out hb)
 clear hb HB0
 cases E with
 | false =>
  obtain rfl : R = false := HR.out
  go_wp2
  go_ret
  exact ⟨rfl, HB.out⟩
 | true =>
  have c1 := cell_of_blk (j := 1) (v := .string s) HN.out rfl
  go_wp2_with fail
  refine (HK1.out _).mono ?_
  rintro e1 w2 ⟨rfl, hb⟩
  clear c1
  replace HN := Lib.hid (blk_below HN.out hb)
  replace HB := Lib.hid (below_step HB.out hb)
  clear hb
  by_cases q1 : k1 = 115
  ·subst q1
   have c2 := cell_of_blk (j := 2) (v := .string g) HN.out rfl
   go_wp2_with fail
   refine (HK2.out _).mono ?_
   rintro e1 w3 ⟨rfl, hb⟩
   clear c2
   replace HB := Lib.hid (below_step HB.out hb)
   clear hb
   by_cases q2 : k2 = 103
   ·subst q2
    obtain rfl : R = true := HR.out
    go_wp2
    go_ret
    exact ⟨rfl, HB.out⟩
   ·obtain rfl : R = false := by rw [HR.out]; simp [q2]
    have t : (k2 == 103) = false := by rw [beq_eq_false_iff_ne]; exact q2
    go_wp2
    go_ret
    exact ⟨rfl, HB.out⟩
  ·obtain rfl : R = false := by rw [HR.out]; simp [q1]
   have t : (k1 == 115) = false := by rw [beq_eq_false_iff_ne]; exact q1
   go_wp2
   go_ret
   exact ⟨rfl, HB.out⟩
theorem parts_two {k : K2} {a b : T} (hw : Wf (.two k a b)) (W : World) :
  Calls Tryz.prog 69 #[.string (tm (.two k a b))] W fun e w' => ∃ v0 : Value, e = .returned (.tuple #[v0, .int .i64 0]) ∧ Kd.R Kd.string 9 w' W.heap.size (fun _ => True) v0 [tm a, tm b] ∧ Below W.heap.size W w' := by
 have hs : (tm (.two k a b)).size ≤ 4000 := right_size (right_tm hw)
 refine term_Parts.calls _ _ _ W ?_
 unfold term_Parts.f partsF
 rw [if_pos (by omega), term_tm hw]
 rfl
theorem sealedPair_call {a b : T} (hw : Wf (.two .s a b)) (W : World) :
  Calls Tryz.prog 72 #[.string (tm (.two .s a b))] W fun e w' => e = .returned (.bool (decide (b.code.toNat = 112))) ∧ Below W.heap.size W w' := by
 have hP := parts_two hw
 have hK := fun W => kind_call (s := tm b) (by have := right_size (right_tm (wf_right hw)); omega) W
 rw [kind_tm (wf_right hw)] at hK
 generalize tm (.two .s a b) = z at *
 generalize tm a = x at *
 generalize tm b = y at *
 generalize b.code.toNat = n at *
 have HD : Hid (decide (n = 112) = decide (n = 112)) := Lib.hid rfl
 obtain ⟨D, hD⟩ : ∃ D, decide (n = 112) = D := ⟨_, rfl⟩
 rw [hD]
 replace HD := Lib.hid hD
 clear hD
 have HP := Lib.hid hP
 have HK := Lib.hid hK
 clear hP hK hw
 go_enter Tryz.func72, Tryz.ntmps72
 go_wp2_with fail
 refine (HP.out _).mono ?_
 rintro e w1 ⟨v0, rfl, hl, hb⟩
 obtain ⟨g, c, rfl, hc, h0, h1⟩ := two_of hl
 have HB := Lib.hid hb
 clear hb hl h0
 go_wp2_with fail
 refine (HK.out _).mono ?_
 rintro e w2 ⟨rfl, hb⟩
 replace HB := Lib.hid (below_step HB.out hb)
 clear hb h1
 by_cases q : n = 112
 ·obtain rfl : D = true := by rw [← HD.out, decide_eq_true q]
  subst q
  go_wp2
  go_ret
  exact ⟨rfl, HB.out⟩
 ·obtain rfl : D = false := by rw [← HD.out, decide_eq_false q]
  have t : ((n : Int) == 112) = false := by rw [beq_eq_false_iff_ne]; omega
  go_wp2
  go_ret
  exact ⟨rfl, HB.out⟩
theorem put3 {w W : World} (hb : Below w.heap.size w W) {b : Nat} {x y z : Value} {t : TypeId} (h : W.heap[b]? = some (.cells #[x, y, z] t (0, 0))) (hn : w.heap.size ≤ b) (x' y' z' : Value) :
  (((W.setCell ⟨b, 0, none⟩ x').setCell ⟨b, 1, none⟩ y').setCell ⟨b, 2, none⟩ z').heap[b]? = some (.cells #[x', y', z'] t (0, 0)) ∧ Below w.heap.size w (((W.setCell ⟨b, 0, none⟩ x').setCell ⟨b, 1, none⟩ y').setCell ⟨b, 2, none⟩ z') := by
 have m : Moved (· = b) W (((W.setCell ⟨b, 0, none⟩ x').setCell ⟨b, 1, none⟩ y').setCell ⟨b, 2, none⟩ z') :=
  ((Moved.setCell (S := (· = b)) W (a := ⟨b, 0, none⟩) rfl x').trans (Moved.setCell (S := (· = b)) _ (a := ⟨b, 1, none⟩) rfl y')).trans (Moved.setCell (S := (· = b)) _ (a := ⟨b, 2, none⟩) rfl z')
 exact ⟨blk_setCell (j := 2) (blk_setCell (j := 1) (blk_setCell (j := 0) h)), Moved.below hb m hb.size (fun k hk => by subst hk; exact hn)⟩
theorem key_size (s : ByteArray) : (keyF s).1.size ≤ 4000 := by
 unfold keyF
 split
 ·split
  ·exact hash_size _
  ·exact Nat.zero_le _
 ·exact Nat.zero_le _
theorem textB_small (s : ByteArray) (h : s.size ≤ 3000) : (textB s).size ≤ 1000000 := by
 have := size_numB (n := s.size) (by omega)
 unfold textB
 rw [ByteArray.size_append, ByteArray.size_append, size_one]; omega
theorem built_err {e : Int} {k : ByteArray × Int} {p sg : ByteArray} (h : (builtF e k p sg).2 ≠ 0) : builtF e k p sg = (noBl, (builtF e k p sg).2) := by
 unfold builtF at h ⊢
 repeat' split
 all_goals first | rfl | skip
 all_goals simp_all
theorem built_e {e : Int} {k : ByteArray × Int} {p sg : ByteArray} (h : (builtF e k p sg).2 = 0) : (builtF e k p sg).1.e = e := by
 unfold builtF at h ⊢
 repeat' split
 all_goals first | rfl | skip
 all_goals simp_all
theorem epoch_nat {e : Int} (h : epochB e = true) : ∃ k : Nat, e = (k : Int) ∧ k ≤ 7 := by
 have h' : 0 ≤ e ∧ e ≤ 7 := of_decide_eq_true h
 obtain ⟨k, rfl⟩ := Int.eq_ofNat_of_zero_le h'.1
 exact ⟨k, rfl, by omega⟩
def BlPost (w : World) (R : Bl × Int) (e : Ending) (w' : World) : Prop := e = .returned (.tuple #[.agg #[.int .i64 R.1.e, .string R.1.s, .string R.1.g], .int .i64 R.2]) ∧ Below w.heap.size w w'
set_option maxRecDepth 100000 in
set_option maxHeartbeats 4000000 in
theorem build_call {st sg pa ct : ByteArray} {e0 : Int} (hst : st.size ≤ 1000000) (hsg : sg.size ≤ 1000000) (hpa : pa.size ≤ 1000000) (w : World) (HTB : Aside0 (Tabs w)) :
  Calls Tryz.prog 15 #[.string st, .int .i64 e0, .string sg, .string pa, .string ct] w (BlPost w (buildF st e0 sg pa ct)) := by
 obtain ⟨R, hR⟩ : ∃ R, buildF st e0 sg pa ct = R := ⟨_, rfl⟩
 have HV : Hid (R = buildF st e0 sg pa ct) := Lib.hid hR.symm
 rw [hR]
 clear hR
 have HSP : Hid (∀ W : World, Below w.heap.size w W → Calls Tryz.prog 44 #[.string pa] W fun e w' => e = .returned (.tuple #[.string (splitF pa).1, .string (splitF pa).2.1, .int .i64 (splitF pa).2.2]) ∧ Below W.heap.size W w') :=
  Lib.hid (fun W hb => name_Split.calls pa _ _ _ W ⟨HTB.out.below hb⟩ (split_val pa (by omega)))
 have HEP := Lib.hid (epochs_call e0)
 have HK1 := Lib.hid (fun W => kind_call (s := st) hst W)
 have HK2 := Lib.hid (fun W => kind_call (s := sg) hsg W)
 have hmf : ∀ (fn : Fn) (first cap : Array Value) (w : World), (Instr.makeFunc fn first cap).run Tryz.prog w = .ok (.func fn first cap) w := fun _ _ _ _ => rfl
 go_enter Tryz.func15, Tryz.ntmps15
 go_wp2_with fail
 refine (HSP.out _ (by repeat' (first | exact Below.refl _ _ | apply below_alloc))).mono ?_
 rintro e w1 ⟨rfl, hb⟩
 have HS : Hid (w1.heap[w.heap.size]? = some (.cells #[.string st] 9 (0, 0))) := Lib.hid (blk_below (blk_alloc (blk_alloc (blk_alloc (blk_alloc (blk_alloc (blk_at _ _ _ (by simp)) _) _) _) _) _) hb)
 have HE : Hid (w1.heap[w.heap.size + 1]? = some (.cells #[.int .i64 e0] 3 (0, 0))) := Lib.hid (blk_below (blk_alloc (blk_alloc (blk_alloc (blk_alloc (blk_at _ _ _ (by simp)) _) _) _) _) hb)
 have HG : Hid (w1.heap[w.heap.size + 2]? = some (.cells #[.string sg] 9 (0, 0))) := Lib.hid (blk_below (blk_alloc (blk_alloc (blk_alloc (blk_at _ _ _ (by simp)) _) _) _) hb)
 have HP : Hid (w1.heap[w.heap.size + 3]? = some (.cells #[.string pa] 9 (0, 0))) := Lib.hid (blk_below (blk_alloc (blk_alloc (blk_at _ _ _ (by simp)) _) _) hb)
 have HC : Hid (w1.heap[w.heap.size + 4]? = some (.cells #[.string ct] 9 (0, 0))) := Lib.hid (blk_below (blk_alloc (blk_at _ _ _ (by simp)) _) hb)
 have HR : Hid (w1.heap[w.heap.size + 5]? = some (.cells #[.int .i64 0, .string ⟨#[]⟩, .string ⟨#[]⟩] 23 (0, 0))) := Lib.hid (blk_below (blk_at _ _ _ (by simp)) hb)
 have HB : Hid (Below w.heap.size w w1) := Lib.hid (below_step (w := w) (by repeat' (first | exact Below.refl _ _ | apply below_alloc)) hb)
 clear hb HSP HTB
 have cE0 : w1.cell? ⟨w.heap.size + 1, 0, none⟩ = some (.int .i64 e0) := cell_of_blk HE.out rfl
 go_wp2_with fail
 refine (HEP.out _).mono ?_
 rintro e w2 ⟨rfl, hb⟩
 clear cE0
 replace HS := Lib.hid (blk_below HS.out hb)
 replace HE := Lib.hid (blk_below HE.out hb)
 replace HG := Lib.hid (blk_below HG.out hb)
 replace HP := Lib.hid (blk_below HP.out hb)
 replace HC := Lib.hid (blk_below HC.out hb)
 replace HR := Lib.hid (blk_below HR.out hb)
 replace HB := Lib.hid (below_step HB.out hb)
 clear hb
 by_cases qE : epochB e0 = true
 rotate_left
 ·have qE' : epochB e0 = false := by simpa using qE
  rw [qE']
  have cR0 := cell_of_blk (j := 0) (v := .int .i64 0) HR.out rfl
  have cR1 := cell_of_blk (j := 1) (v := .string ⟨#[]⟩) HR.out rfl
  have cR2 := cell_of_blk (j := 2) (v := .string ⟨#[]⟩) HR.out rfl
  have zR0 := free_of_blk (j := 0) HR.out
  have zR1 := free_of_blk (j := 1) HR.out
  have zR2 := free_of_blk (j := 2) HR.out
  obtain ⟨hblk, hbe⟩ := put3 HB.out HR.out (by omega) (.int .i64 0) (.string ⟨#[]⟩) (.string ⟨#[]⟩)
  go_wp2
  refine bodyPost_ret (results_ct rfl _ _ (w.heap.size + 5) 23 _ (0, 0) _ rfl hblk Tryz.underlying23 rfl (by kernel_rfl)) rfl ?_
  obtain rfl : R = (noBl, 1) := by rw [HV.out]; exact build_bad (by unfold buildOk; rw [qE', Bool.false_and])
  exact ⟨rfl, hbe⟩
 rw [qE]
 have cS0 : w2.cell? ⟨w.heap.size, 0, none⟩ = some (.string st) := cell_of_blk HS.out rfl
 go_wp2_with fail
 refine (HK1.out _).mono ?_
 rintro e w3 ⟨rfl, hb⟩
 clear cS0
 replace HS := Lib.hid (blk_below HS.out hb)
 replace HE := Lib.hid (blk_below HE.out hb)
 replace HG := Lib.hid (blk_below HG.out hb)
 replace HP := Lib.hid (blk_below HP.out hb)
 replace HC := Lib.hid (blk_below HC.out hb)
 replace HR := Lib.hid (blk_below HR.out hb)
 replace HB := Lib.hid (below_step HB.out hb)
 clear hb
 by_cases q1 : kindF st = 0
 ·have t1 : (kindF st == 0) = true := by rw [q1]; rfl
  have cR0 := cell_of_blk (j := 0) (v := .int .i64 0) HR.out rfl
  have cR1 := cell_of_blk (j := 1) (v := .string ⟨#[]⟩) HR.out rfl
  have cR2 := cell_of_blk (j := 2) (v := .string ⟨#[]⟩) HR.out rfl
  have zR0 := free_of_blk (j := 0) HR.out
  have zR1 := free_of_blk (j := 1) HR.out
  have zR2 := free_of_blk (j := 2) HR.out
  obtain ⟨hblk, hbe⟩ := put3 HB.out HR.out (by omega) (.int .i64 0) (.string ⟨#[]⟩) (.string ⟨#[]⟩)
  go_wp2
  refine bodyPost_ret (results_ct rfl _ _ (w.heap.size + 5) 23 _ (0, 0) _ rfl hblk Tryz.underlying23 rfl (by kernel_rfl)) rfl ?_
  obtain rfl : R = (noBl, 1) := by rw [HV.out]; exact build_bad (by unfold buildOk; rw [(kindF_zero st).1 q1]; simp)
  exact ⟨rfl, hbe⟩
 have t1 : (kindF st == 0) = false := by rw [beq_eq_false_iff_ne]; exact q1
 have cG0 : w3.cell? ⟨w.heap.size + 2, 0, none⟩ = some (.string sg) := cell_of_blk HG.out rfl
 go_wp2_with fail
 refine (HK2.out _).mono ?_
 rintro e w4 ⟨rfl, hb⟩
 clear cG0
 replace HS := Lib.hid (blk_below HS.out hb)
 replace HE := Lib.hid (blk_below HE.out hb)
 replace HG := Lib.hid (blk_below HG.out hb)
 replace HP := Lib.hid (blk_below HP.out hb)
 replace HC := Lib.hid (blk_below HC.out hb)
 replace HR := Lib.hid (blk_below HR.out hb)
 replace HB := Lib.hid (below_step HB.out hb)
 clear hb
 by_cases q2 : kindF sg = 0
 ·have t2 : (kindF sg == 0) = true := by rw [q2]; rfl
  have cR0 := cell_of_blk (j := 0) (v := .int .i64 0) HR.out rfl
  have cR1 := cell_of_blk (j := 1) (v := .string ⟨#[]⟩) HR.out rfl
  have cR2 := cell_of_blk (j := 2) (v := .string ⟨#[]⟩) HR.out rfl
  have zR0 := free_of_blk (j := 0) HR.out
  have zR1 := free_of_blk (j := 1) HR.out
  have zR2 := free_of_blk (j := 2) HR.out
  obtain ⟨hblk, hbe⟩ := put3 HB.out HR.out (by omega) (.int .i64 0) (.string ⟨#[]⟩) (.string ⟨#[]⟩)
  go_wp2
  refine bodyPost_ret (results_ct rfl _ _ (w.heap.size + 5) 23 _ (0, 0) _ rfl hblk Tryz.underlying23 rfl (by kernel_rfl)) rfl ?_
  obtain rfl : R = (noBl, 1) := by rw [HV.out]; exact build_bad (by unfold buildOk; rw [(kindF_zero sg).1 q2]; simp)
  exact ⟨rfl, hbe⟩
 have t2 : (kindF sg == 0) = false := by rw [beq_eq_false_iff_ne]; exact q2
 by_cases q3 : (splitF pa).2.2 = 0
 rotate_left
 ·have t3 : ((splitF pa).2.2 != 0) = true := by rw [bne_iff_ne]; exact q3
  have cR0 := cell_of_blk (j := 0) (v := .int .i64 0) HR.out rfl
  have cR1 := cell_of_blk (j := 1) (v := .string ⟨#[]⟩) HR.out rfl
  have cR2 := cell_of_blk (j := 2) (v := .string ⟨#[]⟩) HR.out rfl
  have zR0 := free_of_blk (j := 0) HR.out
  have zR1 := free_of_blk (j := 1) HR.out
  have zR2 := free_of_blk (j := 2) HR.out
  obtain ⟨hblk, hbe⟩ := put3 HB.out HR.out (by omega) (.int .i64 0) (.string ⟨#[]⟩) (.string ⟨#[]⟩)
  go_wp2
  refine bodyPost_ret (results_ct rfl _ _ (w.heap.size + 5) 23 _ (0, 0) _ rfl hblk Tryz.underlying23 rfl (by kernel_rfl)) rfl ?_
  obtain rfl : R = (noBl, 1) := by rw [HV.out]; exact build_bad (by unfold buildOk; rw [decide_eq_false q3]; simp)
  exact ⟨rfl, hbe⟩
 have t3 : ((splitF pa).2.2 != 0) = false := by rw [q3]; rfl
 have hok : buildOk st e0 sg pa = true := by
  unfold buildOk
  have r1 : right st = true := by cases h : right st with | true => rfl | false => exact absurd ((kindF_zero st).2 h) q1
  have r2 : right sg = true := by cases h : right sg with | true => rfl | false => exact absurd ((kindF_zero sg).2 h) q2
  rw [qE, r1, r2, decide_eq_true q3]; rfl
 replace HV : Hid (R = if ct.size ≤ 64 then builtF e0 (keyF st) (bodyF pa ct) sg else (noBl, 10)) := Lib.hid (by rw [HV.out]; unfold buildF; rw [if_pos hok])
 have cC0 := cell_of_blk (j := 0) (v := .string ct) HC.out rfl
 by_cases q4 : ct.size ≤ 64
 rotate_left
 ·have t4 : decide (64 < (ct.size : Int)) = true := decide_eq_true (by omega)
  have cR0 := cell_of_blk (j := 0) (v := .int .i64 0) HR.out rfl
  have cR1 := cell_of_blk (j := 1) (v := .string ⟨#[]⟩) HR.out rfl
  have cR2 := cell_of_blk (j := 2) (v := .string ⟨#[]⟩) HR.out rfl
  have zR0 := free_of_blk (j := 0) HR.out
  have zR1 := free_of_blk (j := 1) HR.out
  have zR2 := free_of_blk (j := 2) HR.out
  obtain ⟨hblk, hbe⟩ := put3 HB.out HR.out (by omega) (.int .i64 0) (.string ⟨#[]⟩) (.string ⟨#[]⟩)
  go_wp2
  refine bodyPost_ret (results_ct rfl _ _ (w.heap.size + 5) 23 _ (0, 0) _ rfl hblk Tryz.underlying23 rfl (by kernel_rfl)) rfl ?_
  obtain rfl : R = (noBl, 10) := by rw [HV.out]; rw [if_neg q4]
  exact ⟨rfl, hbe⟩
 have t4 : decide (64 < (ct.size : Int)) = false := decide_eq_false (by omega)
 replace HV : Hid (R = builtF e0 (keyF st) (bodyF pa ct) sg) := Lib.hid (by rw [HV.out, if_pos q4])
 have cE0 := cell_of_blk (j := 0) (v := .int .i64 e0) HE.out rfl
 go_wp2_with fail
 clear cC0 cE0
 obtain ⟨k, rfl, hk⟩ := epoch_nat qE
 have hps := split_size q3
 have hbd := bodyF_tm (pa := pa) (ct := ct) (by omega) q4
 have HX : Hid (∀ B : Nat, B = w4.heap.size → ∀ Wc : World, Wc = w4.alloc (.cells #[.int .i64 (k : Int), .string ⟨#[]⟩, .string ⟨#[]⟩] 23) →
   Calls Tryz.prog 47 #[.func (Fn.func 48) #[] #[.pointer (some ⟨w.heap.size + 3, 0, none⟩), .pointer (some ⟨w.heap.size + 4, 0, none⟩), .pointer (some ⟨w.heap.size, 0, none⟩), .pointer (some ⟨B, 0, none⟩), .pointer (some ⟨w.heap.size + 2, 0, none⟩), .pointer (some ⟨w.heap.size + 1, 0, none⟩)]] Wc fun e w' =>
    e = .returned (.int .i64 R.2) ∧ ((R.2 = 0 → w'.heap[B]? = some (.cells #[.int .i64 (k : Int), .string R.1.s, .string R.1.g] 23 (0, 0))) ∧ w'.heap[w.heap.size + 5]? = some (.cells #[.int .i64 0, .string ⟨#[]⟩, .string ⟨#[]⟩] 23 (0, 0)) ∧ Below w.heap.size w w')) := by
  refine Lib.hid ?_
  rintro B rfl Wc rfl
  have lt := HB.out.size
  have ltR : w.heap.size + 5 < w4.heap.size := by have h := HR.out; rw [Array.getElem?_eq_some_iff] at h; exact h.1
  refine caught_build _ _ R.2 _ (fun a b ha hm => ⟨fun h => keep hm (ha.1 h) (by simp), keep hm ha.2.1 (by simp; omega), ?_⟩) ?_
  ·exact Moved.below ha.2.2 hm ha.2.2.size (fun j hj => by subst hj; simp; omega)
  ·refine (build1_walk (P := w.heap.size + 3) (C := w.heap.size + 4) (St := w.heap.size) (B := w4.heap.size) (G := w.heap.size + 2) (Ep := w.heap.size + 1) (tp := textB pa) (tc := textB ct) (bp := bodyF pa ct) (Ky := keyF st) (Se := sealF (keyF st).1 (bodyF pa ct)) (M := signedF k (sealF (keyF st).1 (bodyF pa ct)).1) (X := signF sg (signedF k (sealF (keyF st).1 (bodyF pa ct)).1).1) (R := R) _
    (blk_alloc (blk_alloc HP.out _) _) (blk_alloc (blk_alloc HC.out _) _) (blk_alloc (blk_alloc HS.out _) _) (blk_alloc (blk_new _ _) _) (blk_alloc (blk_alloc HG.out _) _) (blk_alloc (blk_alloc HE.out _) _)
    (by omega) (by omega) (by omega) (by omega) (by omega)
    (text_call (by omega)) (text_call (by omega)) (hbd.2 ▸ pair_call (textB_small _ (by omega)) (textB_small _ (by omega)))
    (key_call hst) (seal_call (by have := key_size st; omega) (by have := pair_size (textB pa) (textB ct); unfold bodyF; omega))
    (fun W h => signed_ok hk (by have := ofF_size (⟨#[115]⟩ : ByteArray) [(keyF st).1, bodyF pa ct]; unfold sealF; omega) W h)
    (fun W h => signed_err hk (by have := ofF_size (⟨#[115]⟩ : ByteArray) [(keyF st).1, bodyF pa ct]; unfold sealF; omega) W h)
    (sign_call hsg (by have := pair_size (atomB k) (sealF (keyF st).1 (bodyF pa ct)).1; unfold signedF; rw [Int.toNat_natCast]; omega)) (by rw [HV.out]; rfl)).mono ?_
   rintro e w' ⟨h1, h2, h3⟩
   refine ⟨h1, ?_, h2, ?_, ?_⟩
   ·exact keep h3 (blk_at _ _ _ (by simp)) (by simp)
   ·exact keep h3 (blk_alloc (blk_alloc HR.out _) _) (by omega)
   ·exact Moved.below (below_alloc (below_alloc HB.out _) _) h3 (by simp; omega) (fun j hj => by subst hj; omega)
 refine (HX.out _ rfl _ rfl).mono ?_
 rintro e w5 ⟨rfl, hB5, hR5, hb5⟩
 clear HX HS HG HP HC HE HR HB HEP HK1 HK2
 have HR := Lib.hid hR5
 have HB := Lib.hid hb5
 clear hR5 hb5
 have hsz := HB.out.size
 have cR0 := cell_of_blk (j := 0) (v := .int .i64 0) HR.out rfl
 have cR1 := cell_of_blk (j := 1) (v := .string ⟨#[]⟩) HR.out rfl
 have cR2 := cell_of_blk (j := 2) (v := .string ⟨#[]⟩) HR.out rfl
 have zR0 := free_of_blk (j := 0) HR.out
 have zR1 := free_of_blk (j := 1) HR.out
 have zR2 := free_of_blk (j := 2) HR.out
 by_cases q5 : R.2 = 0
 rotate_left
 ·have t5 : (R.2 != 0) = true := by rw [bne_iff_ne]; exact q5
  have hR1 : R = (noBl, R.2) := by rw [HV.out] at q5 ⊢; exact built_err q5
  have HR1 := Lib.hid hR1
  obtain ⟨hblk, hbe⟩ := put3 HB.out HR.out (by omega) (.int .i64 0) (.string ⟨#[]⟩) (.string ⟨#[]⟩)
  clear hR1 hB5
  go_wp2
  refine bodyPost_ret (results_ct rfl _ _ (w.heap.size + 5) 23 _ (0, 0) _ rfl hblk Tryz.underlying23 rfl (by kernel_rfl)) rfl ?_
  refine ⟨?_, hbe⟩
  rw [show R.1 = noBl from congrArg Prod.fst HR1.out]
  rfl
 have t5 : (R.2 != 0) = false := by rw [q5]; rfl
 have hB := hB5 q5
 have he : R.1.e = (k : Int) := by rw [HV.out] at q5 ⊢; exact built_e q5
 have HE := Lib.hid he
 have cB0 := cell_of_blk (j := 0) (v := .int .i64 (k : Int)) hB rfl
 have cB1 := cell_of_blk (j := 1) (v := .string R.1.s) hB rfl
 have cB2 := cell_of_blk (j := 2) (v := .string R.1.g) hB rfl
 obtain ⟨hblk, hbe⟩ := put3 HB.out HR.out (by omega) (.int .i64 (k : Int)) (.string R.1.s) (.string R.1.g)
 clear hB hB5 he
 go_wp2
 refine bodyPost_ret (results_ct rfl _ _ (w.heap.size + 5) 23 _ (0, 0) _ rfl hblk Tryz.underlying23 rfl (by kernel_rfl)) rfl ?_
 refine ⟨?_, hbe⟩
 rw [HE.out]
 first | rfl | (rw [q5]; rfl) | (rw [q5])
end Go.Proofs.YtphehoidkmficaaGreatDoor
end
section

namespace Go.Proofs.YtphehoidkmficaaGreatDoor
open Go.RowKit Go.Proofs.YtphehoidkmficaaGreatDoorW.PrintWords Go.Proofs.YtphehoidkmficaaGreatDoorW.PrintLast Go.Proofs.YtphehoidkmficaaGreatDoor.Ref Go.Proofs.YtphehoidkmficaaGreatDoor.PA Go.Proofs.YtphehoidkmficaaGreatDoor.PB
set_option linter.unusedVariables false
set_option linter.unusedSimpArgs false
theorem parts_wf {t a : T} (h : Wf t) (ha : a ∈ t.parts) : Wf a := by
 cases t with
 | atom n => simp [T.parts] at ha
 | text s => simp [T.parts] at ha
 | one k x => simp only [T.parts, List.mem_singleton] at ha; subst ha; exact wf_one h
 | two k x y =>
  simp only [T.parts, List.mem_cons, List.not_mem_nil, or_false] at ha
  rcases ha with rfl | rfl
  ·exact wf_left h
  ·exact wf_right h
theorem words_tm {t : T} (h : Wf t) : wordsF (tm t) = match t with | .text s => (ofBytes s, 0) | _ => (⟨#[]⟩, 2) := by
 unfold wordsF
 rw [term_tm h]
 cases t <;> rfl
def stepsF (e : Int) (s g v st : ByteArray) (n : Int) (pa : ByteArray) (l : List ByteArray) : ByteArray × Int :=
 if (signedF e s).2 = 0 then (if verifyF v (signedF e s).1 g = 0 then (if (backF st n).2 = 0 then (if (keyF (backF st n).1).2 = 0 then (if (unsealF (keyF (backF st n).1).1 s).2 = 0 then afterF l pa else (⟨#[]⟩, (unsealF (keyF (backF st n).1).1 s).2)) else (⟨#[]⟩, (keyF (backF st n).1).2)) else (⟨#[]⟩, (backF st n).2)) else (⟨#[]⟩, verifyF v (signedF e s).1 g)) else (⟨#[]⟩, (signedF e s).2)
theorem inside_after {a b : T} (hw : Wf (.two .s a b)) {k : ByteArray} (h : tm a = k) (pa : ByteArray) :
  insideF k (tm (.two .s a b)) pa = if (afterF (b.parts.map tm) pa).2 = 0 ∧ (afterF (b.parts.map tm) pa).1.size ≤ 64 ∧ b.code.toNat = 112 then some (afterF (b.parts.map tm) pa).1 else none := by
 unfold insideF
 rw [term_tm hw]
 have hb := wf_right hw
 cases b with
 | atom n => simp [T.code]
 | text n => simp [T.code]
 | one kk x => cases kk <;> simp [T.code, K1.code]
 | two kk x y =>
  cases kk with
  | s => simp [T.code, K2.code]
  | b => simp [T.code, K2.code]
  | g => simp [T.code, K2.code]
  | p =>
   have hx := wf_left hb
   have hy := wf_right hb
   have hc : (T.two K2.p x y).code.toNat = 112 := rfl
   simp only [T.parts, List.map_cons, List.map_nil, afterF, hc, and_true]
   rw [words_tm hx, words_tm hy]
   cases x with
   | atom n => simp
   | one _ _ => simp
   | two _ _ _ => simp
   | text s =>
    simp only [if_true]
    by_cases hp : ofBytes s = pa
    ·simp only [if_pos hp]
     cases y with
     | atom n => simp
     | one _ _ => simp
     | two _ _ _ => simp
     | text s' => simp [h, hp, size_ofBytes]
    ·simp only [if_neg hp]
     cases y with
     | atom n => simp
     | one _ _ => simp
     | two _ _ _ => simp
     | text s' => simp [hp]
theorem inside_not {a b : T} (hw : Wf (.two .s a b)) {k : ByteArray} (h : tm a ≠ k) (pa : ByteArray) : insideF k (tm (.two .s a b)) pa = none := by
 unfold insideF
 rw [term_tm hw]
 split
 ·rename_i heq
  simp only [Option.some.injEq, T.two.injEq, true_and] at heq
  obtain ⟨rfl, rfl⟩ := heq
  rw [if_neg (fun hh => h hh.1)]
 ·rfl
theorem unseal_val {a b : T} (hw : Wf (.two .s a b)) {k : ByteArray} : (tm a = k ∧ unsealF k (tm (.two .s a b)) = (tm b, 0)) ∨ (tm a ≠ k ∧ (unsealF k (tm (.two .s a b))).2 ≠ 0) := by
 by_cases h : tm a = k
 ·refine Or.inl ⟨h, ?_⟩
  subst h
  unfold unsealF
  rw [if_pos (right_tm (wf_left hw)), term_tm hw]
  simp
 ·refine Or.inr ⟨h, ?_⟩
  unfold unsealF
  rw [term_tm hw]
  by_cases hr : right k = true
  ·rw [if_pos hr]; simp [h]
  ·rw [if_neg hr]; simp
theorem opened_steps {e n : Int} {g v st pa : ByteArray} {a b : T} (hw : Wf (.two .s a b)) :
  openedF ⟨e, tm (.two .s a b), g⟩ v st n pa = if (stepsF e (tm (.two .s a b)) g v st n pa (b.parts.map tm)).2 = 0 ∧ (stepsF e (tm (.two .s a b)) g v st n pa (b.parts.map tm)).1.size ≤ 64 ∧ b.code.toNat = 112 then some (stepsF e (tm (.two .s a b)) g v st n pa (b.parts.map tm)).1 else none := by
 unfold openedF stepsF
 simp only
 by_cases h1 : (signedF e (tm (.two .s a b))).2 = 0
 ·simp only [if_pos h1]
  by_cases h2 : verifyF v (signedF e (tm (.two .s a b))).1 g = 0
  ·simp only [if_pos h2]
   by_cases h3 : (backF st n).2 = 0
   ·simp only [if_pos h3]
    by_cases h4 : (keyF (backF st n).1).2 = 0
    ·simp only [if_pos h4]
     rw [if_pos ⟨h1, h2, h3, h4⟩]
     rcases unseal_val hw (k := (keyF (backF st n).1).1) with ⟨h5, h6⟩ | ⟨h5, h6⟩
     ·rw [inside_after hw h5, h6, if_pos rfl]
     ·rw [inside_not hw h5, if_neg h6, if_neg (fun h => h6 h.1)]
    ·simp only [if_neg h4]
     rw [if_neg (fun h => h4 h.2.2.2), if_neg (fun h => h4 h.1)]
   ·simp only [if_neg h3]
    rw [if_neg (fun h => h3 h.2.2.1), if_neg (fun h => h3 h.1)]
  ·simp only [if_neg h2]
   rw [if_neg (fun h => h2 h.2.1), if_neg (fun h => h2 h.1)]
 ·simp only [if_neg h1]
  rw [if_neg (fun h => h1 h.1), if_neg (fun h => h1 h.1)]
theorem back_size (s : ByteArray) (n : Int) : (backF s n).1.size ≤ 4000 := by
 unfold backF
 split
 ·rename_i hr
  split
  ·exact Nat.zero_le _
  ·rcases hashes_codes n.toNat s hr with ⟨_, h⟩ | h
   ·exact right_size h
   ·rw [h]; exact Nat.zero_le _
 ·exact Nat.zero_le _
set_option maxRecDepth 100000 in
set_option maxHeartbeats 4000000 in
theorem open_bl_call {b : Bl} {vs : List ByteArray} {st pa : ByteArray} {e0 : Int} (A : Option Addr) (cap : Nat) (hbs : b.s.size ≤ 1000000) (hbg : b.g.size ≤ 1000000) (hst : st.size ≤ 1000000) (hvs : ∀ v ∈ vs, v.size ≤ 1000000) (hl : vs.length ≤ 1000000) (hcap : vs.length ≤ cap) (w : World) (hC : Kd.C Kd.string w A vs.length vs) :
  Calls Tryz.prog 17 #[.agg #[.int .i64 b.e, .string b.s, .string b.g], .slice A vs.length cap, .string st, .int .i64 e0, .string pa] w fun e w' => e = .returned (.tuple #[.string (openBl b vs st e0 pa).1, .int .i64 (openBl b vs st e0 pa).2]) ∧ Below w.heap.size w w' := by
 obtain ⟨R, hR⟩ : ∃ R, openBl b vs st e0 pa = R := ⟨_, rfl⟩
 have HV : Hid (R = openBl b vs st e0 pa) := Lib.hid hR.symm
 rw [hR]
 clear hR
 have HRT := Lib.hid (rightBl_call b hbs hbg)
 have HEP := Lib.hid (epochs_call e0)
 have HK1 := Lib.hid (fun W => kind_call (s := st) hst W)
 have HCC := Lib.hid hC
 have HVS := Lib.hid hvs
 have hmf : ∀ (fn : Fn) (first cap : Array Value) (w : World), (Instr.makeFunc fn first cap).run Tryz.prog w = .ok (.func fn first cap) w := fun _ _ _ _ => rfl
 clear hC hvs
 go_enter Tryz.func17, Tryz.ntmps17
 go_wp2_with fail
 refine (HRT.out _).mono ?_
 rintro e w1 ⟨rfl, hb⟩
 have HX : Hid (w1.heap[w.heap.size]? = some (.cells #[.int .i64 b.e, .string b.s, .string b.g] 23 (0, 0))) := Lib.hid (blk_below (blk_alloc (blk_alloc (blk_alloc (blk_alloc (blk_at _ _ _ (by simp)) _) _) _) _) hb)
 have HV1 : Hid (w1.heap[w.heap.size + 1]? = some (.cells #[.slice A vs.length cap] 24 (0, 0))) := Lib.hid (blk_below (blk_alloc (blk_alloc (blk_alloc (blk_at _ _ _ (by simp)) _) _) _) hb)
 have HS : Hid (w1.heap[w.heap.size + 2]? = some (.cells #[.string st] 9 (0, 0))) := Lib.hid (blk_below (blk_alloc (blk_alloc (blk_at _ _ _ (by simp)) _) _) hb)
 have HE : Hid (w1.heap[w.heap.size + 3]? = some (.cells #[.int .i64 e0] 3 (0, 0))) := Lib.hid (blk_below (blk_alloc (blk_at _ _ _ (by simp)) _) hb)
 have HP : Hid (w1.heap[w.heap.size + 4]? = some (.cells #[.string pa] 9 (0, 0))) := Lib.hid (blk_below (blk_at _ _ _ (by simp)) hb)
 have HB : Hid (Below w.heap.size w w1) := Lib.hid (below_step (w := w) (by repeat' (first | exact Below.refl _ _ | apply below_alloc)) hb)
 clear hb HRT
 by_cases q0 : rightBl b = true
 rotate_left
 ·have q0' : rightBl b = false := by simpa using q0
  rw [q0']
  obtain rfl : R = (⟨#[]⟩, 1) := by rw [HV.out]; unfold openBl openOk; rw [q0', Bool.false_and]; rfl
  go_wp2
  go_ret2
  exact ⟨rfl, HB.out⟩
 rw [q0]
 have cS := cell_of_blk (j := 0) (v := .string st) HS.out rfl
 go_wp2_with fail
 refine (HK1.out _).mono ?_
 rintro e w2 ⟨rfl, hb⟩
 clear cS HK1
 replace HX := Lib.hid (blk_below HX.out hb)
 replace HV1 := Lib.hid (blk_below HV1.out hb)
 replace HS := Lib.hid (blk_below HS.out hb)
 replace HE := Lib.hid (blk_below HE.out hb)
 replace HP := Lib.hid (blk_below HP.out hb)
 replace HB := Lib.hid (below_step HB.out hb)
 clear hb
 by_cases q1 : kindF st = 0
 ·have t1 : (kindF st == 0) = true := by rw [q1]; rfl
  obtain rfl : R = (⟨#[]⟩, 1) := by rw [HV.out]; unfold openBl openOk; rw [(kindF_zero st).1 q1]; simp
  go_wp2
  go_ret2
  exact ⟨rfl, HB.out⟩
 have t1 : (kindF st == 0) = false := by rw [beq_eq_false_iff_ne]; exact q1
 have r1 : right st = true := by cases h : right st with | true => rfl | false => exact absurd ((kindF_zero st).2 h) q1
 have cE := cell_of_blk (j := 0) (v := .int .i64 e0) HE.out rfl
 go_wp2_with fail
 refine (HEP.out _).mono ?_
 rintro e w3 ⟨rfl, hb⟩
 clear cE HEP
 replace HX := Lib.hid (blk_below HX.out hb)
 replace HV1 := Lib.hid (blk_below HV1.out hb)
 replace HS := Lib.hid (blk_below HS.out hb)
 replace HE := Lib.hid (blk_below HE.out hb)
 replace HP := Lib.hid (blk_below HP.out hb)
 replace HB := Lib.hid (below_step HB.out hb)
 clear hb
 by_cases qE : epochB e0 = true
 rotate_left
 ·have qE' : epochB e0 = false := by simpa using qE
  rw [qE']
  obtain rfl : R = (⟨#[]⟩, 1) := by rw [HV.out]; unfold openBl openOk; rw [qE']; simp
  go_wp2
  go_ret2
  exact ⟨rfl, HB.out⟩
 rw [qE]
 obtain ⟨en, rfl, hen⟩ := epoch_nat qE
 have cE := cell_of_blk (j := 0) (v := .int .i64 (en : Int)) HE.out rfl
 have cV := cell_of_blk (j := 0) (v := .slice A vs.length cap) HV1.out rfl
 have cX0 := cell_of_blk (j := 0) (v := .int .i64 b.e) HX.out rfl
 have w1 : wrap64 ((en : Int) + 1) = ((en + 1 : Nat) : Int) := by rw [w64 (by omega) (by omega)]; omega
 by_cases q2 : vs.length = en + 1
 rotate_left
 ·have t2 : ((vs.length : Int) != ((en + 1 : Nat) : Int)) = true := by rw [bne_iff_ne]; omega
  obtain rfl : R = (⟨#[]⟩, 1) := by rw [HV.out]; unfold openBl openOk; rw [decide_eq_false (show ¬ ((vs.length : Int) = (en : Int) + 1) by omega)]; rw [Bool.and_false, Bool.and_false, Bool.and_false]; rfl
  go_wp2
  go_ret2
  exact ⟨rfl, HB.out⟩
 have t2 : ((vs.length : Int) != ((en + 1 : Nat) : Int)) = false := by rw [q2]; simp
 have hok : openOk b vs st (en : Int) = true := by
  unfold openOk
  rw [q0, r1, qE, decide_eq_true (show (vs.length : Int) = (en : Int) + 1 by omega)]; rfl
 have hv := HV.out
 unfold openBl at hv
 rw [if_pos hok] at hv
 clear HV
 have HV := Lib.hid hv
 clear hv
 obtain ⟨hb1, hb2, hb3⟩ := rightBl_inv q0
 obtain ⟨be, bs, bg⟩ := b
 simp only at hb1 hb2 hb3 HV cX0 HX hbs hbg
 obtain ⟨k, rfl⟩ := Int.eq_ofNat_of_zero_le hb1.1
 have hk : k ≤ 7 := by omega
 by_cases q3 : k ≤ en
 rotate_left
 ·have t3 : decide ((en : Int) < (k : Int)) = true := decide_eq_true (by omega)
  obtain rfl : R = (⟨#[]⟩, 7) := by rw [HV.out]; rw [if_pos (by omega)]
  go_wp2
  go_ret2
  exact ⟨rfl, HB.out⟩
 have t3 : decide ((en : Int) < (k : Int)) = false := decide_eq_false (by omega)
 have hv := HV.out
 rw [if_neg (by omega)] at hv
 clear HV
 obtain ⟨sa, sb, hsw, rfl⟩ := kind_sealed hb2
 simp only [Int.toNat_natCast] at hv
 rw [opened_steps hsw] at hv
 have HV := Lib.hid hv
 clear hv
 obtain ⟨S, hS⟩ : ∃ S, stepsF (k : Int) (tm (.two .s sa sb)) bg (vs.getD k ⟨#[]⟩) st ((en : Int) - (k : Int)) pa (sb.parts.map tm) = S := ⟨_, rfl⟩
 have hv := HV.out
 rw [hS] at hv
 replace hv : R = if S.2 = 0 ∧ S.1.size ≤ 64 ∧ sb.code.toNat = 112 then (S.1, 0) else (⟨#[]⟩, 7) := by
  rw [hv]
  by_cases h : S.2 = 0 ∧ S.1.size ≤ 64 ∧ sb.code.toNat = 112
  ·rw [if_pos h, if_pos h]
  ·rw [if_neg h, if_neg h]
 clear HV
 have HV := Lib.hid hv
 clear hv
 obtain ⟨ad, hA, hcell⟩ := readsC HCC.out (k := k) (by omega)
 subst hA
 have hgd : vs.getD k ⟨#[]⟩ = vs[k] := by rw [List.getD_eq_getElem?_getD, List.getElem?_eq_getElem (by omega)]; rfl
 rw [hgd] at hS
 have HST := Lib.hid hS
 have hvk := HVS.out vs[k] (List.getElem_mem (by omega))
 generalize vs[k] = v at hcell hvk HST
 clear hS hgd HVS HCC q1 t1 qE hok q0 hb1 hb2 hb3
 have HPA := Lib.hid (sealedPair_call hsw)
 have HX2 : Hid (∀ C : Nat, C = w3.heap.size → ∀ Wc : World, Wc = w3.alloc (.cells #[.string ⟨#[]⟩] 9) →
   Calls Tryz.prog 47 #[.func (Fn.func 64) #[] #[.pointer (some ⟨w.heap.size + 1, 0, none⟩), .pointer (some ⟨w.heap.size, 0, none⟩), .pointer (some ⟨w.heap.size + 2, 0, none⟩), .pointer (some ⟨w.heap.size + 3, 0, none⟩), .pointer (some ⟨w.heap.size + 4, 0, none⟩), .pointer (some ⟨C, 0, none⟩)]] Wc fun e w' =>
    e = .returned (.int .i64 S.2) ∧ ((S.2 = 0 → w'.heap[C]? = some (.cells #[.string S.1] 9 (0, 0))) ∧ w'.heap[w.heap.size]? = some (.cells #[.int .i64 (k : Int), .string (tm (.two .s sa sb)), .string bg] 23 (0, 0)) ∧ Below w.heap.size w w')) := by
  refine Lib.hid ?_
  rintro C rfl Wc rfl
  have lt := HB.out.size
  have ltP : w.heap.size + 4 < w3.heap.size := by have h := HP.out; rw [Array.getElem?_eq_some_iff] at h; exact h.1
  have hbs4 : (backF st ((en : Int) - (k : Int))).1.size ≤ 1000000 := by have := back_size st ((en : Int) - (k : Int)); omega
  have hks := key_size (backF st ((en : Int) - (k : Int))).1
  have hms := pair_size (atomB k) (tm (.two .s sa sb))
  have hun : (unsealF (keyF (backF st ((en : Int) - (k : Int))).1).1 (tm (.two .s sa sb))).2 = 0 → unsealF (keyF (backF st ((en : Int) - (k : Int))).1).1 (tm (.two .s sa sb)) = (tm sb, 0) := fun h => by
   rcases unseal_val hsw (k := (keyF (backF st ((en : Int) - (k : Int))).1).1) with h1 | h1
   ·exact h1.2
   ·exact absurd h h1.2
  refine caught_open _ _ S.2 _ (fun a b ha hm => ⟨fun h => keep hm (ha.1 h) (by simp), keep hm ha.2.1 (by simp; omega), ?_⟩) ?_
  ·exact Moved.below ha.2.2 hm ha.2.2.size (fun j hj => by subst hj; simp; omega)
  ·refine (open1_walk (V := w.heap.size + 1) (B := w.heap.size) (St := w.heap.size + 2) (Ep := w.heap.size + 3) (P := w.heap.size + 4) (C := w3.heap.size) (n := vs.length) (cap := cap) (k := k) (ad := ad) (bs := tm (.two .s sa sb)) (bg := bg) (st := st) (pa := pa) (v := v) (en := (en : Int)) (vc := verifyF v (signedF k (tm (.two .s sa sb))).1 bg)
    (Bk := backF st ((en : Int) - (k : Int))) (Ky := keyF (backF st ((en : Int) - (k : Int))).1) (Op := unsealF (keyF (backF st ((en : Int) - (k : Int))).1).1 (tm (.two .s sa sb))) (M := signedF k (tm (.two .s sa sb))) (l := sb.parts.map tm) (R := S) _
    (blk_alloc (blk_alloc HV1.out _) _) (blk_alloc (blk_alloc HX.out _) _) (blk_alloc (blk_alloc HS.out _) _) (blk_alloc (blk_alloc HE.out _) _) (blk_alloc (blk_alloc HP.out _) _) (blk_alloc (blk_new _ _) _)
    (pw_cell_below (below_alloc (below_alloc HB.out _) _) hcell) (by omega) hk hcap
    (by omega) (by omega) (by omega) (by omega) (by omega) (by have := World.block_lt_of_cell? w _ hcell; omega)
    (fun W h => signed_ok hk hbs W h) (fun W h => signed_err hk hbs W h)
    (fun W => verify_call v _ bg hvk (by unfold signedF; rw [Int.toNat_natCast]; omega) hbg W)
    (by rw [w64 (by omega) (by omega)]; exact back_call hst _ (by omega)) (key_call hbs4) (fun W => open_call _ _ (by omega) hbs W)
    (fun h W => ?_) ?_ ?_ (by rw [← HST.out]; rfl)).mono ?_
   ·rw [hun h]
    refine term_Parts.calls _ _ _ W ?_
    unfold term_Parts.f partsF
    rw [if_pos (by have := right_size (right_tm (wf_right hsw)); show (tm sb).size ≤ _; omega), term_tm (wf_right hsw)]
    rfl
   ·cases sb <;> simp [T.parts]
   ·intro x hx
    obtain ⟨t, ht, rfl⟩ := List.mem_map.1 hx
    exact right_size (right_tm (parts_wf (wf_right hsw) ht))
   ·rintro e w' ⟨h1, h2, h3⟩
    refine ⟨h1, ?_, h2, ?_, ?_⟩
    ·exact keep h3 (blk_at _ _ _ (by simp)) (by simp)
    ·exact keep h3 (blk_alloc (blk_alloc HX.out _) _) (by omega)
    ·exact Moved.below (below_alloc (below_alloc HB.out _) _) h3 (by simp; omega) (fun j hj => by subst hj; omega)
 clear HST hvk
 go_wp2_with fail
 refine (HX2.out _ rfl _ rfl).mono ?_
 rintro e w5 ⟨rfl, hC5, hX5, hb5⟩
 have HB5 := Lib.hid hb5
 have HX5 := Lib.hid hX5
 clear HX2 hb5 hX5 HV1 HS HP HE HX HB cE cV cX0 hcell
 by_cases q5 : S.2 = 0
 rotate_left
 ·have t5 : (S.2 != 0) = true := by rw [bne_iff_ne]; exact q5
  obtain rfl : R = (⟨#[]⟩, 7) := by rw [HV.out, if_neg (fun h => q5 h.1)]
  clear hC5
  go_wp2
  go_ret2
  exact ⟨rfl, HB5.out⟩
 have t5 : (S.2 != 0) = false := by rw [q5]; rfl
 have HC5 := Lib.hid (hC5 q5)
 clear hC5
 have cC := cell_of_blk (j := 0) (v := .string S.1) HC5.out rfl
 by_cases q6 : S.1.size ≤ 64
 rotate_left
 ·have t6 : decide (64 < (S.1.size : Int)) = true := decide_eq_true (by omega)
  obtain rfl : R = (⟨#[]⟩, 7) := by rw [HV.out, if_neg (fun h => q6 h.2.1)]
  go_wp2
  go_ret2
  exact ⟨rfl, HB5.out⟩
 have t6 : decide (64 < (S.1.size : Int)) = false := decide_eq_false (by omega)
 have cX := cell_of_blk (j := 1) (v := .string (tm (.two .s sa sb))) HX5.out rfl
 go_wp2_with fail
 refine (HPA.out _).mono ?_
 rintro e w6 ⟨rfl, hb⟩
 replace HC5 := Lib.hid (blk_below HC5.out hb)
 replace HB5 := Lib.hid (below_step HB5.out hb)
 clear hb cC cX HPA HX5
 by_cases q7 : sb.code.toNat = 112
 rotate_left
 ·rw [decide_eq_false q7]
  obtain rfl : R = (⟨#[]⟩, 7) := by rw [HV.out, if_neg (fun h => q7 h.2.2)]
  go_wp2
  go_ret2
  exact ⟨rfl, HB5.out⟩
 rw [decide_eq_true q7]
 have cC := cell_of_blk (j := 0) (v := .string S.1) HC5.out rfl
 obtain rfl : R = (S.1, 0) := by rw [HV.out, if_pos ⟨q5, q6, q7⟩]
 go_wp2
 go_ret2
 exact ⟨rfl, HB5.out⟩
end Go.Proofs.YtphehoidkmficaaGreatDoor
end
