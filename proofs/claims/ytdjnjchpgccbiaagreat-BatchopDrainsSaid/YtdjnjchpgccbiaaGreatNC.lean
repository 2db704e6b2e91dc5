/- Batches: the names in a call's blocks; what a batch shows. -/
import Derived.Test.YtdjnjchpgccbiaaGreatNB
import Derived.Test.YtdjnjchpgccbiaaGreatMB
import Derived.Test.YtdjnjchpgccbiaaGreatOC
import Derived.Test.YtdjnjchpgccbiaaGreatHB
namespace Go.Proofs.YtdjnjchpgccbiaaGreat.Abs
open Go.Proofs
set_option maxRecDepth 10000
set_option linter.unusedSimpArgs false
set_option linter.unusedVariables false
def BOp.blkB (o : BOp) (st : Nat) (ν : Nat → Nat) (i : Nat) : B:=
 match i with
 | 0=>bopR o st (ν 1) (ν 2)
 | 1=>remB o
 | 2=>evB o
 | _=>noB
theorem remV_ren (l : List Int) (k n : Nat) (σ : Nat → Nat) : renV σ (remV l k n) = remV l k (σ n):=by cases k <;> rfl
theorem rvV_ren (z : Bool) (l : List (Int × Int)) (n : Nat) (σ : Nat → Nat) : renV σ (rvV z l n) = rvV z l (σ n):=by cases z <;> rfl
theorem bblk_ren (o : BOp) (st : Nat) (ν σ : Nat → Nat) (i : Nat) : renB σ (o.blkB st ν i) = o.blkB (σ st) (fun i=>σ (ν i)) i:=by
 unfold BOp.blkB
 split
 · unfold bopR
   simp only [renB,List.map_cons,List.map_nil,renVs,remV_ren,rvV_ren]
   rfl
 · rfl
 · rfl
 · rfl
theorem remV_names (l : List Int) (k n m : Nat) (h : m ∈ nameOf (remV l k n)) : m = n:=by cases k <;> simpa [remV,nameOf] using h
theorem rvV_names (z : Bool) (l : List (Int × Int)) (n m : Nat) (h : m ∈ nameOf (rvV z l n)) : m = n:=by
 cases z
 · simp [rvV,nameOf] at h
 · simpa [rvV,evV,nameOf] using h
theorem bblk_names (o : BOp) (st : Nat) (ν : Nat → Nat) (i : Nat) : ∀ n ∈ namesB (o.blkB st ν i),(∃ j,j < 3 ∧ n = ν j) ∨ n = st:=by
 intro n hn
 unfold BOp.blkB at hn
 split at hn
 · unfold bopR at hn
   simp only [namesB,List.flatMap_cons,List.flatMap_nil,List.append_nil,namesOf,List.mem_append,List.nil_append] at hn
   have hI : ∀ x,n ∉ nameOf (V.int x):=fun x h=>by simp [V.int,nameOf] at h
   have hB : ∀ x,n ∉ nameOf (V.bool x):=fun x h=>by simp [V.bool,nameOf] at h
   rcases hn with h | h | h | h | h | h | h | h | h | h | h | h | h | h | h | h | h | h | h | h | h | h | h
   all_goals first
    | exact absurd h (hI _)
    | exact absurd h (hB _)
    | exact .inr (by simpa [nameOf] using h)
    | exact .inl ⟨1,by omega,remV_names _ _ _ _ h⟩
    | exact .inl ⟨2,by omega,rvV_names _ _ _ _ h⟩
    | exact .inl ⟨2,by omega,by simpa [evV,nameOf] using h⟩
    | exact absurd h (by simp)
 · simp [remB,namesB] at hn
 · simp [evB,namesB] at hn
 · simp [noB,namesB] at hn
theorem bblk_cong (o : BOp) (st : Nat) (ν μ : Nat → Nat) (i : Nat) (h : ∀ x,x < 3 → ν x = μ x) : o.blkB st ν i = o.blkB st μ i:=by
 unfold BOp.blkB
 split
 · rw [h 1 (by omega),h 2 (by omega)]
 all_goals rfl
def bl3 (o : BOp) (st : Nat) (ν : Nat → Nat) : List (Nat × B):=[(ν 0,o.blkB st ν 0),(ν 1,o.blkB st ν 1),(ν 2,o.blkB st ν 2)]
theorem bB0_at (o : BOp) (s : Sto) {σ ν : Nat → Nat} {st b l c d : Nat} (hν : ∀ x,x < 3 → σ x = ν x) (h1 : σ 3 = st) (h2 : σ 4 = b) (h3 : σ 5 = l) (h4 : σ 6 = c) (h5 : σ 7 = d) :
 (bB0 o s).map (fun p=>(σ p.1,renB σ p.2)) = bl3 o st ν ++ sto5 s st b l c d:=by
 subst h1 h2 h3 h4 h5
 have hb : ∀ x,x < 3 → ((σ x,renB σ (o.blkB 3 (fun i=>i) x)) : Nat × B) = (ν x,o.blkB (σ 3) ν x):=fun x hx=>by
  rw [hν x hx,bblk_ren,bblk_cong o (σ 3) (fun i=>σ i) ν x hν]
 show [((σ 0,renB σ (o.blkB 3 (fun i=>i) 0)) : Nat × B),(σ 1,renB σ (o.blkB 3 (fun i=>i) 1)),(σ 2,renB σ (o.blkB 3 (fun i=>i) 2))] ++ _ = _
 rw [hb 0 (by omega),hb 1 (by omega),hb 2 (by omega)]
 rfl
def nuB (i : Nat) : Nat:=match i with
 | 0=>0
 | i + 1=>8 + i
theorem bB1_at (o : BOp) (s : Sto) {σ ν : Nat → Nat} {st b l c d : Nat} (h0 : σ 0 = ν 0) (hν : ∀ x,x < 2 → σ (8 + x) = ν (x + 1)) (h1 : σ 3 = st) (h2 : σ 4 = b) (h3 : σ 10 = l) (h4 : σ 6 = c) (h5 : σ 7 = d) :
 (bB1 o s).map (fun p=>(σ p.1,renB σ p.2)) = bl3 o st ν ++ sto5 s st b l c d:=by
 subst h1 h2 h3 h4 h5
 have hμ : ∀ x,x < 3 → σ (nuB x) = ν x:=fun x hx=>by
  cases x with
  | zero=>exact h0
  | succ x=>exact hν x (by omega)
 have hb : ∀ x,x < 3 → ((σ (nuB x),renB σ (o.blkB 3 nuB x)) : Nat × B) = (ν x,o.blkB (σ 3) ν x):=fun x hx=>by
  rw [hμ x hx,bblk_ren,bblk_cong o (σ 3) (fun i=>σ (nuB i)) ν x hμ]
 show [((σ (nuB 0),renB σ (o.blkB 3 nuB 0)) : Nat × B),(σ (nuB 1),renB σ (o.blkB 3 nuB 1)),(σ (nuB 2),renB σ (o.blkB 3 nuB 2))] ++ _ = _
 rw [hb 0 (by omega),hb 1 (by omega),hb 2 (by omega)]
 rfl
theorem boBat {m : Nat} {o : BOp} {st : Nat} {ν : Nat → Nat} {i b : Nat} {ρ : Nat → Nat} {B' : Option B} {K : Prop} (μ : Nat → Nat) (k : K) (hB : B' = some (o.blkB st μ i)) (hst : ρ st = st) (hν : ∀ x,x < 3 → ρ (ν x) = μ x) (hb : ∀ x,x < 3 → ν x < b) (hs : st < b) : BO ρ b ((m,o.blkB st ν i) : Nat × B).2 B' K:=by
 refine .mk _ hB ?_ ?_ k
 · rw [bblk_ren,hst]
   exact (bblk_cong o st _ _ i hν).symm
 · refine belowB_names fun n hn=>?_
   rcases bblk_names _ _ _ _ n hn with ⟨x,hx,e⟩ | e
   · rw [e];exact hb x hx
   · rw [e];exact hs
theorem bB0_below (o : BOp) (s : Sto) : ∀ p ∈ bB0 o s,p.1 < 8 ∧ p.2.Below (Lt 8):=by
 intro p hp
 rcases List.mem_append.1 hp with hp | hp
 · have hall : ∀ i,(o.blkB 3 (fun i=>i) i).Below (Lt 8):=fun i=>belowB_names fun n hn=>by
    rcases bblk_names _ _ _ _ n hn with ⟨x,hx,e⟩ | e <;> omega
   have hp : p ∈ [(0,o.blkB 3 (fun i=>i) 0),(1,o.blkB 3 (fun i=>i) 1),(2,o.blkB 3 (fun i=>i) 2)]:=hp
   simp only [List.mem_cons,List.not_mem_nil,or_false] at hp
   rcases hp with rfl | rfl | rfl
   · exact ⟨by dsimp only;omega,hall 0⟩
   · exact ⟨by dsimp only;omega,hall 1⟩
   · exact ⟨by dsimp only;omega,hall 2⟩
 · exact belowL_of (L:=stoAt s 3 5) rfl p hp
def bRes (o : BOp) (e : Nat) : V:=.agg [V.int o.e,V.int 0,V.bool false,rvV o.rv o.ev e]
theorem bResultC (o : BOp) (s : Sto) : LSpec Tryz.prog 29 [.p 0 22 0 0] (bB0 o s) 8 (bRes o 2) (bB0 o s) 8:=by
 obtain ⟨th,c,held,scn,it,w,cl,rem,nf,ev,e,rv,eff,blk⟩:=o
 cases rv with
 | false=>
  refine lspecO ((bB0 ⟨th,c,held,scn,it,w,cl,rem,nf,ev,e,false,eff,blk⟩ s).map fun p : Nat × B=>p.1) tab_ok mix Tryz.func29 (by kernel_rfl) (by rfl) (bB0_below ⟨th,c,held,scn,it,w,cl,rem,nf,ev,e,false,eff,blk⟩ s) (by rfl) (by rfl) (go ?_)
  exact retR (bB0_below ⟨th,c,held,scn,it,w,cl,rem,nf,ev,e,false,eff,blk⟩ s) rfl (fun K k=>go k) (go True.intro)
 | true=>
  refine lspecO ((bB0 ⟨th,c,held,scn,it,w,cl,rem,nf,ev,e,true,eff,blk⟩ s).map fun p : Nat × B=>p.1) tab_ok mix Tryz.func29 (by kernel_rfl) (by rfl) (bB0_below ⟨th,c,held,scn,it,w,cl,rem,nf,ev,e,true,eff,blk⟩ s) (by rfl) (by rfl) (go ?_)
  exact retR (bB0_below ⟨th,c,held,scn,it,w,cl,rem,nf,ev,e,true,eff,blk⟩ s) rfl (fun K k=>go k) (go True.intro)
set_option maxHeartbeats 1000000
def modS (n : Nat) (s : Sto) (S : List Item) : Mod:=⟨n,(sls S).map s.ent,s.next,[]⟩
theorem modelC {n K : Nat} {s : Sto} {S : List Item} (h : Rdy n K s S) : LSpec Tryz.prog 26 [.p 0 10 0 0] (stoB s 2) 5 ((modS n s S).v) (stoB s 2) 5:=by
 have ha:=arenaH h.ok
 have hi:=itemsH h.ok
 have hpl:=h.ok.toSOk.pics_len
 have hn12:=h.ok.n12
 have hSl : S.length ≤ 12:=by have:=h.ok.toSOk.len;omega
 have hil : (S.map Item.row).length = S.length:=List.length_map ..
 have hpm : (s.pics.map Slt.row).length = n:=by rw [List.length_map];exact hpl
 refine lspec tab_ok mix Tryz.func26 (by kernel_rfl) (by rfl) (by rfl) (by rfl) (by rfl) ?_
 (refine go ?_; try exact True.intro)
 refine callL ha [some 0,some 1,some 2,some 3,some 4] [] rfl (go ?_)
 refine callL hi [some 0,some 1,some 2,some 3,some 4] [] rfl (go ?_)
 rw [hpm]
 refine loopB tab_ok mix [2,3,4,5] [0,1,2,3,4,64,256] (fun k : Nat=>[(6,V.int k)]) (fun k=>[(960,.rows 4 [[V.int n,.ac 20 4 k,V.int s.next,.c (.slice none 0 0)]]),(20,.dat 4 ((((sls S).map s.ent).take k).map Ent.row))]) (fun k=>k ≤ S.length) (fun k=>S.length - k) [(20,20)] 0 rfl (by omega) (by (refine go ?_; try exact True.intro)) ?_
 intro k hk
 (refine go ?_; try exact True.intro)
 rw [hil]
 by_cases hz : k < S.length
 case neg=>
  obtain rfl : k = S.length:=by omega
  rw [decide_eq_false (show ¬ (S.length : Int) < S.length by omega)]
  (refine go ?_; try exact True.intro)
  have htk : ((sls S).map s.ent).take S.length = (sls S).map s.ent:=List.take_of_length_le (by simp [sls])
  rw [htk]
  refine .mk [] (go ?_);try exact True.intro
  repeat (refine cb (by first | rfl | (simp [sls];done) | exact ⟨by simp [sls],rfl⟩) ?_;(refine go ?_; try exact True.intro))
 obtain ⟨x,hx⟩:=get_lt hz
 obtain ⟨i,hi1,hi2,hi3,hi4⟩:=h.ok.itm x (List.mem_of_getElem? hx)
 have hxs : x.slot = (i : Int):=by rw [hi2];rfl
 have hpi : s.pics[i]? = some (s.pic i):=by
  unfold Sto.pics
  rw [List.getElem?_map,List.getElem?_range (by rw [h.ok.ns];exact hi1)];rfl
 have hwd:=h.ok.wd i hi1
 have hkb:=h.ok.kb
 rw [decide_eq_true (show (k : Int) < S.length by omega)]
 (refine go ?_; try exact True.intro)
 refine idxB hx (go ?_)
 rw [hxs]
 rw [decide_eq_true (show (0 : Int) ≤ i by omega)]
 (refine go ?_; try exact True.intro)
 rw [hpm]
 rw [decide_eq_true (show (i : Int) < n by omega)]
 (refine go ?_; try exact True.intro)
 refine idxB hpi (go ?_)
 refine dcallB (rMakeC i (s.pic i).gen ⟨⟨by show 0 ≤ s.m.word (i + 1) / 4;omega,by show s.m.word (i + 1) / 4 ≤ _;unfold Sto.gn at hwd;omega⟩,by omega,by omega⟩) (go ?_)
 have hsl : (sls S).length = S.length:=by simp [sls]
 have hlk : (((sls S).map s.ent).take k).length = k:=by rw [List.length_take,List.length_map,hsl];omega
 refine cb ⟨by rw [List.length_map,hlk],by simp;omega⟩ (go ?_)
 have hent : ((sls S).map s.ent)[k]? = some (s.ent i):=by
  rw [List.getElem?_map,show (sls S)[k]? = some i by unfold sls;rw [List.getElem?_map,hx,hi2];rfl];rfl
 refine .mk [(20,3776)] (k + 1) (by omega) (by omega) (go ?_)
 have hrow : (s.ent i).row = [.c (.int .i64 (s.pic i).time),.c (.int .i64 (s.pic i).seq),.c (.int .i64 (64 * (s.pic i).gen + i)),.c (.bool (decide ((s.pic i).state = 3)))]:=rfl
 repeat (refine cb (by first | rfl | (rw [List.take_add_one,hent];simp [hrow];done) | (simp;omega)) ?_;(refine go ?_; try exact True.intro))
set_option maxHeartbeats 8000000 in
theorem bRunC (P : Nat → BOp) (Q : Nat → Sto) (m N : Nat) (hm : 1 ≤ m ∧ m ≤ N ∧ N ≤ 1000) (hst : ∀ k,k < m → BStepL (P k) (Q k) (decide (k + 1 = m)) (P (k + 1)) (Q (k + 1))) :
 LSpec Tryz.prog 28 [.p 0 22 0 0,V.int N] (bB0 (P 0) (Q 0)) 8 (V.int m) (bB1 (P m) (Q m)) 11:=by
 rw [show bB1 (P m) (Q m) = bl3 (P m) 3 nuB ++ stoAt (Q m) 3 10 from rfl]
 refine lspecO [0,8,9] tab_ok mix Tryz.func28 (by kernel_rfl) (by rfl) (bB0_below _ _) (by rfl) (by rfl) (go ?_)
 refine loopO tab_ok mix [0,21,22] [0,1] [] (fun k : Nat=>[(5,V.int ((k : Int) + 1))]) (fun k=>bl3 (P k) 3 (fun x=>match x with | 0=>0 | x=>20 + x) ++ sto5 (Q k) 3 4 8 6 7) (fun k=>k < m) (fun k=>m - k) [(8,5),(21,1),(22,2)] 0 rfl (by omega) ?_ ?_
 · (refine go ?_; try exact True.intro)
   iterate 3 (refine boBat (o:=P 0) (st:=3) (ν:=fun x=>match x with | 0=>0 | x=>20 + x) (fun x=>x) ?_ (by rfl) (by rfl) (by decide) (by decide) (by decide);(refine go ?_; try exact True.intro))
 intro k hk
 have h1:=hst k hk
 (refine go ?_; try exact True.intro)
 rw [decide_eq_true (show (k : Int) + 1 ≤ N by omega)]
 (refine go ?_; try exact True.intro)
 refine callO h1 [some 0,some 21,some 22,some 3,some 4,some 8,some 6,some 7] [] _ _ _ (bB0_at (ν:=fun x=>match x with | 0=>0 | x=>20 + x) (P k) (Q k) (by decide) rfl rfl rfl rfl rfl) (bB1_at (ν:=fun x=>match x with | 0=>0 | x=>447 + x) (P (k + 1)) (Q (k + 1)) rfl (by decide) rfl rfl rfl rfl rfl) rfl rfl (go ?_)
 by_cases hz : k + 1 = m
 · rw [decide_eq_true hz]
   (refine go ?_; try exact True.intro)
   subst hz
   refine .mk [(8,448),(9,449),(10,450)] (go ?_)
   iterate 3 (refine boBat (o:=P (k + 1)) (st:=3) (ν:=nuB) (fun x=>match x with | 0=>0 | x=>447 + x) ?_ (by rfl) (by rfl) (by decide) (by decide) (by decide);(refine go ?_; try exact True.intro))
 · rw [decide_eq_false hz]
   (refine go ?_; try exact True.intro)
   refine .mk [(8,450),(21,448),(22,449)] (k + 1) (by omega) (by omega) (go ?_)
   iterate 3 (refine boBat (o:=P (k + 1)) (st:=3) (ν:=fun x=>match x with | 0=>0 | x=>20 + x) (fun x=>match x with | 0=>0 | x=>447 + x) ?_ (by rfl) (by rfl) (by decide) (by decide) (by decide);(refine go ?_; try exact True.intro))
def runB (o : BOp) (s : Sto) : Nat → BOp × Sto
 | 0=>(o,s)
 | k + 1=>(runB o s k).1.step (runB o s k).2
theorem runK_bat (o : BOp) (s : Sto) : ∀ k,runK (.bat o) s k = (.bat (runB o s k).1,(runB o s k).2)
 | 0=>rfl
 | k + 1=>by
  show (runK (.bat o) s k).1.step (runK (.bat o) s k).2 = _
  rw [runK_bat o s k];rfl
end Go.Proofs.YtdjnjchpgccbiaaGreat.Abs
