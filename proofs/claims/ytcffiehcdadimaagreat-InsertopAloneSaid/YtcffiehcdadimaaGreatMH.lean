/- Insertions of many threads that are played to their end: the walk's frame. -/
import Derived.Test.YtcffiehcdadimaaGreatMG
import Derived.Test.YtcffiehcdadimaaGreatM18
import Derived.Test.YtcffiehcdadimaaGreatJB
import Derived.Test.YtcffiehcdadimaaGreatC22
namespace Go.Proofs.YtcffiehcdadimaaGreat.Abs
open Go.Proofs
set_option maxRecDepth 10000
set_option linter.unusedSimpArgs false
set_option linter.unusedVariables false
def resR (p : Int × Int) : List D:=[.c (.int .i64 p.1),.c (.int .i64 p.2),.c (.bool false),.c (.slice none 0 0)]
def natD (k : Nat) : List D:=intD k
def ibc (cs : Nat → Option IOp) (st : Nat) (j a i : Nat) : B:=
 match cs j with
 | none=>.dat 1 []
 | some o=>o.blkB st (fun x=>a + x) i
theorem ibc_bun (cs : Nat → Option IOp) (st : Nat) : Bun 12 [st] (ibc cs st):=by
 constructor
 · intro j a i hi n hn
   unfold ibc at hn
   split at hn
   · simp [namesB] at hn
   · rcases blk_names _ _ _ _ n hn with ⟨x,hx,e⟩ | e
     · left;omega
     · right;simp [e]
 · intro j a a' i σ hi hs hS
   unfold ibc
   split
   · rfl
   · next o _=>
     rw [blk_ren,hS st (by simp)]
     have e : ∀ x,x < 12 → σ (a + x) = a' + x:=fun x hx=>hs x (by omega)
     exact blk_cong o st _ _ i e
theorem famC_upd (cs : Nat → Option IOp) (st lo k m t : Nat) (o : Option IOp) : famR (ibc (upd cs t o) st) lo k m t = famR (ibc cs st) lo k m t:=by
 unfold famR
 rw [List.flatMap_def,List.flatMap_def]
 congr 1
 refine List.map_congr_left fun j hj=>?_
 have hne : j ≠ t:=fun e=>by
  have:=(List.mem_filter.1 hj).2
  subst e;rw [Nat.beq_refl] at this;cases this
 refine List.map_congr_left fun i _=>?_
 unfold ibc
 rw [upd_ne _ _ _ _ hne]
def tpI (picks : List Int) (i : Nat) : Nat:=if i < picks.length then ((picks.getD i 0).tmod 4).toNat else i % 4
def rndsN (times picks : List Int) : Nat:=picks.length + 40 * times.length + 40
def ps0 (times : List Int) (s0 : Sto) : PS:=⟨0,0,0,s0,fun _=>none,fun _=>0,List.replicate times.length (0,0),[],[]⟩
structure PWOk (n : Nat) (T v n0 : Int) (f0 : Nat) (times picks : List Int) (s0 : Sto) (y : PS × Nat) : Prop where
 cur : y.2 < 4
 i : y.1.i ≤ rndsN times picks
 run : y.1 = PS.run times (tpI picks) (ps0 times s0) y.1.i
 ok : PI n times.length T v n0 f0 y.1
def pwT (y : PS) : List (Nat × V):=[(10,.ac 8 4 y.res.length),(11,.ac 9 1 y.ord.length),(12,V.int y.nx),(13,V.int y.opn),(14,V.int y.i)]
def pwA (y : PS) : List (Nat × (Nat → B)):=[(6,arrP y.cs 16 0 12)]
def mineB (f : Nat → Nat) : B:=.rows 4 [arr4 fun j=>V.int (f j)]
theorem mineB_below (f : Nat → Nat) (b : Nat) : (mineB f).Below (Lt b):=belowB_names fun n hn=>by simp [mineB,arr4,namesB,namesOf,nameOf,V.int] at hn
def pwC (y : PS) : List (Nat × B):=[(7,mineB y.mine),(8,.dat 4 (y.res.map resR)),(9,.dat 1 (y.ord.map natD))] ++ stoAt y.s 0 10
def pwH (y : PS × Nat) : List (Nat × B):=(6,arrP y.1.cs 16 0 12 y.2) :: pwC y.1
def pwF (y : PS × Nat) : List (Nat × B):=famO (ibc y.1.cs 0) 20 12 y.2 ++ famR (ibc y.1.cs 0) 40 12 4 y.2
noncomputable def pw_def (times picks : List Int) (hpk : ∀ y ∈ picks,0 ≤ y ∧ y ≤ 255) (hL : picks.length ≤ 200) (hH : times.length ≤ 20) {n : Nat} {T v n0 : Int} {f0 : Nat} (s0 s1 : Sto) (el : List (Int × Int)) (h0 : PWOk n T v n0 f0 times picks s0 (ps0 times s0,0)) :
 { F : PS × Nat → Prop // (∀ y,PWOk n T v n0 f0 times picks s0 y → F y) → LSpec Tryz.prog 43 [.p 0 10 0 0,intsV times,u8sV picks] (stoB s0 2) 5 (.tup [.lst 4 (el.map resR) false,V.bool true]) (stoB s1 5) 6 }:=by
 apply Subtype.mk
 intro hF
 show LSpec Tryz.prog 43 [.p 0 10 0 0,intsV times,u8sV picks] (stoB s0 2) 5 (.tup [.lst 4 (el.map resR) false,V.bool true]) (stoB s1 5) 6
 have hml : (picks.map u8D).length = picks.length:=List.length_map ..
 have hmh : (times.map intD).length = times.length:=List.length_map ..
 refine lspec tab_ok mix Tryz.func43 (by kernel_rfl) (by rfl) (by rfl) (by rfl) (by rfl) ?_
 (refine go ?_; try exact True.intro)
 rw [hmh]
 refine makeB tab_ok times.length (resR (0,0)) _ rfl (.c _ rfl (.c _ rfl (.c _ rfl (.c _ rfl .nil)))) rfl rfl (by omega) rfl (go ?_)
 refine loopG1 tab_ok mix 11 9 1 40 88 [0] [6,7,8,9,20,21,22,23,24,25,26,27,28,29,30,31] [0,1,2] [] (fun y=>(8,.p 6 4 0 0) :: (9,.p 7 4 0 0) :: pwT y.1) pwH pwF (PWOk n T v n0 f0 times picks s0) (fun y=>rndsN times picks - y.1.i) [(6,192),(7,256),(8,448),(9,9),(10,2)] _ rfl rfl rfl rfl h0 ?_ ?_ ?_
 · intro p hp
   rcases List.mem_append.1 hp with hp | hp
   · obtain ⟨i,hi,rfl⟩:=mem_famO.1 hp
     exact ⟨rfl,by dsimp only;omega,trivial⟩
   · obtain ⟨j,i,hj,_,hi,rfl⟩:=mem_famR.1 hp
     have:=mul_in (k:=12) hj
     exact ⟨rfl,by dsimp only;omega,trivial⟩
 · exact fun y hy=>hF y hy
 · (refine go ?_; try exact True.intro)
   refine cb (by simp [ps0]) (go ?_)
   have hA : (arrP (ps0 times s0).cs 16 0 12 0).Below (Lt 896):=arrP_below _ (by decide) (by decide) (by decide)
   refine BO.mk _ rfl (by rfl) hA (go ?_)
   refine BO.mk _ rfl (by rfl) (mineB_below _ _) (go ?_)
   refine BO.mk _ rfl (by simp [ps0,renB];rfl) trivial (go ?_)
   refine BO.no rfl trivial (go ?_);try exact True.intro
theorem ibc_none {cs : Nat → Option IOp} {t : Nat} (h : cs t = none) : famO (ibc cs 0) 20 12 t = [(20,.dat 1 []),(21,.dat 1 []),(22,.dat 1 []),(23,.dat 1 []),(24,.dat 1 []),(25,.dat 1 []),(26,.dat 1 []),(27,.dat 1 []),(28,.dat 1 []),(29,.dat 1 []),(30,.dat 1 []),(31,.dat 1 [])]:=by
 unfold famO ibc
 rw [h]
 rfl
theorem take_one {α : Type} {l : List α} {k : Nat} {a : α} (h : l[k]? = some a) : l.take (k + 1) = l.take k ++ [a]:=by
 rw [List.take_add_one,h];rfl
theorem getlt {α : Type} {l : List α} {i : Nat} {x : α} (h : l[i]? = some x) : i < l.length:=by
 rcases Nat.lt_or_ge i l.length with c | c
 · exact c
 · rw [List.getElem?_eq_none c] at h;cases h
theorem pw_exit (times picks : List Int) (hpk : ∀ y ∈ picks,0 ≤ y ∧ y ≤ 255) (hL : picks.length ≤ 200) (hH : times.length ≤ 20) {n : Nat} {T v n0 : Int} {f0 : Nat} (s0 s1 : Sto) (el : List (Int × Int)) (h0 : PWOk n T v n0 f0 times picks s0 (ps0 times s0,0))
 {y : PS × Nat} (hy : PWOk n T v n0 f0 times picks s0 y) (u : ¬ y.1.i < rndsN times picks) (he : y.1.el = el) (hs1 : y.1.s = s1) (hcs : ∀ j,j < 4 → y.1.cs j = none) (hop : y.1.opn = 0) (hnx : y.1.nx = times.length) (hol : y.1.ord.length = times.length) (hell : y.1.el.length = times.length)
 (hre : ∀ p k : Nat,y.1.ord[p]? = some k → y.1.res[k]? = y.1.el[p]?) :
 (pw_def times picks hpk hL hH s0 s1 el h0).1 y:=by
 obtain ⟨y,cur⟩:=y
 dsimp only at u he hs1 hcs hop hnx hol hell hre
 subst he hs1
 have hml : (picks.map u8D).length = picks.length:=List.length_map ..
 have hmh : (times.map intD).length = times.length:=List.length_map ..
 have hi : y.i ≤ rndsN times picks:=hy.i
 have hrl : y.res.length = times.length:=hy.ok.rl
 refine RoundG.mk (y,cur) _ _ Sub.refl (congrArg (fun E=>hAt (E ++ _)) (ibc_none (hcs cur hy.cur))) (fam_shut (k:=12) (m:=4) (lo:=40) (ibc_bun _ 0) (by decide) (by decide)) (by rfl) (go ?_)
 rw [hml,hmh]
 rw [decide_eq_false (show ¬ (y.i : Int) < picks.length + 40 * times.length + 40 by unfold rndsN at u;omega)]
 (refine go ?_; try exact True.intro)
 rw [hop]
 (refine go ?_; try exact True.intro)
 rw [hmh,hnx]
 rw [decide_eq_false (show ¬ (times.length : Int) < times.length by omega)]
 (refine go ?_; try exact True.intro)
 rw [hmh,hol]
 rw [show (!(decide ((times.length : Int) = times.length))) = false by simp]
 (refine go ?_; try exact True.intro)
 refine loopB tab_ok mix [10,11] [1,10,3,4,0,8,9] (fun k : Nat=>[(18,.ac 11 4 k),(19,V.int k)]) (fun k=>[(11,.dat 4 ((y.el.take k).map resR))]) (fun k=>k ≤ times.length) (fun k=>times.length - k) [(11,11)] 0 rfl (by omega) ?_ ?_
 · (refine go ?_; try exact True.intro)
   done
 intro k hk
 (refine go ?_; try exact True.intro)
 by_cases hz : k < times.length
 case neg=>
  obtain rfl : k = times.length:=by omega
  rw [decide_eq_false (show ¬ (times.length : Int) < times.length by omega)]
  (refine go ?_; try exact True.intro)
  refine .mk [(5,10)] (go ?_)
  refine cb ⟨by simp [hell],by rw [← hell,List.take_length]⟩ (go ?_);try exact True.intro
 rw [decide_eq_true (show (k : Int) < times.length by omega)]
 (refine go ?_; try exact True.intro)
 obtain ⟨q,hq⟩ : ∃ q,y.ord[k]? = some q:=⟨_,List.getElem?_eq_getElem (by omega)⟩
 obtain ⟨r,hr⟩ : ∃ r,y.el[k]? = some r:=⟨_,List.getElem?_eq_getElem (by omega)⟩
 have hrq:=(hre k q hq).trans hr
 refine atB hz (go ?_)
 refine getB hq (go ?_)
 have hql:=getlt hrq
 refine atB hql (go ?_)
 refine getB hrq (go ?_)
 refine .mk [(11,3392)] (k + 1) (by omega) (by omega) (go ?_);try exact True.intro
 repeat (refine cb (by rw [take_one hr];simp [resR];try omega) ?_;(refine go ?_; try exact True.intro))
end Go.Proofs.YtcffiehcdadimaaGreat.Abs
