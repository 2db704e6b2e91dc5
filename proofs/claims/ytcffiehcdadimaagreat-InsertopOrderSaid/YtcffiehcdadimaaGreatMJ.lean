/- Insertions of many threads: law Order. -/
import Derived.Test.YtcffiehcdadimaaGreatMI
import Derived.Test.YtcffiehcdadimaaGreatMF
namespace Go.Proofs.YtcffiehcdadimaaGreat.Abs
open Go.Proofs
set_option maxRecDepth 10000
set_option linter.unusedSimpArgs false
set_option linter.unusedVariables false
set_option maxHeartbeats 8000000 in
theorem orderG (c : Int) (l : List OpS) (times picks : List Int) {n : Nat} (hn : 1 ≤ n ∧ n ≤ 12) (s0 s1 : Sto) (S S1 : List Item) (el : List (Int × Int)) (hsz : PSpec Tryz.prog 15 [.c (.int .u8 c)] (V.int n)) (hhd : PSpec Tryz.prog 42 [] (V.bool true))
 (hp : LSpec Tryz.prog 14 [V.int n,opsSV l] [] 0 (.tup [.p 0 10 0 0,.p 5 10 0 0]) (stoB s0 2 ++ rstoAt s0 5 7) 10) (hr : Ready n s0 S)
 (hpl : picks.length ≤ 200 → times.length ≤ 20 → Played n s0 S times s1 S1 el ∧ LSpec Tryz.prog 43 [.p 0 10 0 0,intsV times,u8sV picks] (stoB s0 2) 5 (.tup [.lst 4 (el.map resR) false,V.bool true]) (stoB s1 5) 6) :
 PSpec Tryz.prog 12 [.c (.int .u8 c),opsSV l,intsV times,u8sV picks] (V.bool true):=by
 have hml : (picks.map u8D).length = picks.length:=List.length_map ..
 have hmh : (times.map intD).length = times.length:=List.length_map ..
 refine pspec tab_ok mix Tryz.func12 (by kernel_rfl) rfl rfl ?_
 (refine go ?_; try exact True.intro)
 refine callB hhd (go ?_)
 refine callB hsz (go ?_)
 refine callL hp [] [] rfl (go ?_)
 rw [hmh]
 by_cases hg1 : (20 : Int) < times.length
 · rw [decide_eq_true hg1]
   (refine go ?_; try exact True.intro)
   exact .same rfl
 rw [decide_eq_false hg1]
 (refine go ?_; try exact True.intro)
 rw [hml]
 by_cases hg2 : (200 : Int) < picks.length
 · rw [decide_eq_true hg2]
   (refine go ?_; try exact True.intro)
   exact .same rfl
 rw [decide_eq_false hg2]
 obtain ⟨hP,hC⟩:=hpl (by omega) (by omega)
 have hpk0:=hr.ok.toSOk.pics_len
 have hlen:=hP.len
 have hli0:=hr.ok.toSOk.live_idle
 have hli1:=hP.sb.toSOk.live_idle
 have hil0:=hr.ok.toSOk.items_len
 have hil1:=hP.sb.toSOk.items_len
 have hfr:=hP.ef.fr
 have hnx0:=hr.ok.fits.next
 have hpl1:=hP.sb.toSOk.pics_len
 have hpic : ∀ x,x < n → s1.pics[x]? = some (s1.pic x):=fun x hx=>by
  obtain ⟨z,hz⟩ : ∃ z,s1.pics[x]? = some z:=⟨_,List.getElem?_eq_getElem (by omega)⟩
  rw [hz,(hP.sb.toSOk.pics_get hz).2]
 (refine go ?_; try exact True.intro)
 refine callL (arenaH hr.ok) [some 512,some 513,some 514,some 515,some 516] [] rfl (go ?_)
 refine callL hC [some 512,some 513,some 514,some 515,some 516] [] rfl (go ?_)
 refine callL (arenaH hP.sb) [some 512,some 513,some 2112,some 515,some 516] [] rfl (go ?_)
 refine loopB tab_ok mix [9,14,16] [2752] (fun i : Nat=>[(13,V.int (s0.next + okN (el.take i))),(17,V.int i)]) (fun i=>[]) (fun i=>i ≤ times.length) (fun i=>times.length - i) [] 0 rfl (by omega) ?_ ?_
 · (refine go ?_; try exact True.intro)
   refine cb (by show s0.next = s0.next + ((0 : Nat) : Int);simp) (go ?_);try exact True.intro
 intro i hi
 (refine go ?_; try exact True.intro)
 rw [List.length_map,hlen]
 by_cases hz : i < times.length
 case neg=>
  obtain rfl : i = times.length:=by omega
  rw [decide_eq_false (show ¬ (times.length : Int) < times.length by omega)]
  rw [show el.take times.length = el by rw [← hlen,List.take_length],← hP.ef.nx]
  (refine go ?_; try exact True.intro)
  rw [show decide (s1.next = s1.next) = true by simp]
  (refine go ?_; try exact True.intro)
  exact .same rfl
 rw [decide_eq_true (show (i : Int) < times.length by omega)]
 (refine go ?_; try exact True.intro)
 obtain ⟨r,hr⟩ : ∃ r,el[i]? = some r:=⟨_,List.getElem?_eq_getElem (by omega)⟩
 refine idxB hr (go ?_)
 obtain ⟨m1,m2,m3⟩:=hP.ef.mem i r.1 r.2 hr
 have htk:=okN_take el i
 have hstep : okN (el.take (i + 1)) = okN (el.take i) + if r.1 = 0 then 1 else 0:=by rw [take_one hr,okN_snoc]
 by_cases he : r.1 = 0
 · rw [he]
   rw [he,if_pos rfl] at hstep
   obtain ⟨x,hx,q1,q2,q3,q4⟩:=m1 he
   (refine go ?_; try exact True.intro)
   refine idxB hr (go ?_)
   refine callB (rSlotC r.2) ?_
   rw [q1]
   (refine go ?_; try exact True.intro)
   rw [decide_eq_false (show ¬ (x : Int) < 0 by omega)]
   (refine go ?_; try exact True.intro)
   rw [List.length_map,hpl1]
   rw [decide_eq_false (show ¬ (n : Int) ≤ x by omega)]
   (refine go ?_; try exact True.intro)
   refine idxB (hpic x hx) (go ?_)
   rw [decide_eq_true (show (s1.pic x).seq = s0.next + okN (el.take i) from q4)]
   (refine go ?_; try exact True.intro)
   refine idxB (hpic x hx) (go ?_)
   refine idxB hr (go ?_)
   refine dcallC (rGenerationC r.2) (go ?_)
   rw [decide_eq_true (show (s1.pic x).gen = genH r.2 from q2.symm)]
   (refine go ?_; try exact True.intro)
   refine .mk [] (i + 1) (by omega) (by omega) (go ?_);try exact True.intro
   repeat (refine cb (by rw [hstep];push_cast;omega) ?_;(refine go ?_; try exact True.intro))
 · rw [if_neg he] at hstep
   rw [show (!decide (r.1 = 0)) = true by simp [he]]
   (refine go ?_; try exact True.intro)
   refine .mk [] (i + 1) (by omega) (by omega) (go ?_);try exact True.intro
   repeat (refine cb (by rw [hstep];push_cast;omega) ?_;(refine go ?_; try exact True.intro))
theorem insertopOrder (c : Int) (hc : 0 ≤ c ∧ c ≤ 255) (l : List OpS) (hl : ∀ o ∈ l,o.Ok) (times picks : List Int) (hpk : ∀ y ∈ picks,0 ≤ y ∧ y ≤ 255) :
 PSpec Tryz.prog 12 [.c (.int .u8 c),opsSV l,intsV times,u8sV picks] (V.bool true):=by
 obtain ⟨_,hn⟩:=capN_ok hc.1
 have hr:=prep_ready hn hl
 by_cases hb : picks.length ≤ 200 ∧ times.length ≤ 20
 · obtain ⟨s1,S1,el,_,_,h1,h2⟩:=playG hr times picks hpk hb.1 hb.2
   exact orderG c l times picks hn _ s1 _ S1 el (sizeC c hc) head12C (preparedC hn l hl) hr fun _ _=>⟨h1,h2⟩
 · exact orderG c l times picks hn _ (prepS (capN c) l) _ [] [] (sizeC c hc) head12C (preparedC hn l hl) hr fun a b=>absurd ⟨a,b⟩ hb
theorem specInsertopOrder (rows : List (List D)) (h : AllR (ShapeD tab 5) [5,22,36,23] rows) : PSpec Tryz.prog 12 (List.zipWith (argV tab) [5,22,36,23] rows) (V.bool true):=
 args12 insertopOrder rows h
end Go.Proofs.YtcffiehcdadimaaGreat.Abs
