/-
  The first wrong moment of a trace: the second text, walked.
-/
import Derived.Test.YtnghnjdabbjcnaaGreatDoorQe
import Derived.Test.YtnghnjdabbjcnaaGreatDoorFj
set_option maxHeartbeats 0
set_option maxRecDepth 100000
namespace Go.Vm
variable {m:Mo}
def Mo.hd (m:Mo):Bs:=m.agents.headD []
structure FSt where
 a:List (Int×Bool)
 b:List (Int×Bool)
 r:List (Bs×Bool)
variable {S:FSt}
def FSt.bhd (S:FSt) (m:Mo):Int:=if m.kind=6 then(if lkB m.hd S.r=true then 5 else 0) else if m.kind=1 then(if lkB m.num S.a=true then 5 else 0) else if lkB m.num S.a=false∨lkB m.num S.b=true then 9 else 0
def FSt.err (S:FSt) (m:Mo):Int:=if m.alone≠0 then m.alone else S.bhd m
def FSt.nxt (S:FSt) (m:Mo):FSt:=if m.kind=6 then⟨S.a,S.b,upB m.hd true S.r⟩ else if m.kind=1 then⟨upB m.num true S.a,S.b,S.r⟩ else⟨S.a,upB m.num (decide (m.kind=7)) S.b,S.r⟩
def Zfu:FSt→List Mo→Nat→Int×Int
 |_,[],_=>(0,0)
 |S,m::r,i=>if S.err m≠0 then((i:Int),S.err m) else Zfu (S.nxt m) r (i+1)
def Yf (l:List Mo):Int×Int:=if 400<l.length then(-1,3) else Zfu ⟨[],[],[]⟩ l 0
theorem ZjS {l:List Mo} {i:Nat} (h:l[i]? = some m):Zfu S (l.drop i) i=if S.err m≠0 then((i:Int),S.err m) else Zfu (S.nxt m) (l.drop (i+1)) (i+1):=by rw[ZB h];rfl
theorem Zjg (h:m.alone≠0):S.err m=m.alone:=if_pos h
theorem Zto (h:m.alone=0) (h6:m.kind=6):S.err m=if lkB m.hd S.r=true then 5 else 0:=by unfold FSt.err FSt.bhd;rw[if_neg (by omega),if_pos h6]
theorem ZsN (h:m.alone=0) (h6:¬ m.kind=6) (h1:m.kind=1):S.err m=if lkB m.num S.a=true then 5 else 0:=by unfold FSt.err FSt.bhd;rw[if_neg (by omega),if_neg h6,if_pos h1]
theorem Zth (h:m.alone=0) (h6:¬ m.kind=6) (h1:¬ m.kind=1):S.err m=if lkB m.num S.a=false∨lkB m.num S.b=true then 9 else 0:=by unfold FSt.err FSt.bhd;rw[if_neg (by omega),if_neg h6,if_neg h1]
theorem Zsf (h6:m.kind=6):S.nxt m=⟨S.a,S.b,upB m.hd true S.r⟩:=if_pos h6
theorem ZsX (h6:¬ m.kind=6) (h1:m.kind=1):S.nxt m=⟨upB m.num true S.a,S.b,S.r⟩:=by unfold FSt.nxt;rw[if_neg h6,if_pos h1]
theorem Zr8 (h6:¬ m.kind=6) (h1:¬ m.kind=1):S.nxt m=⟨S.a,upB m.num (decide (m.kind=7)) S.b,S.r⟩:=by unfold FSt.nxt;rw[if_neg h6,if_neg h1]
theorem form_6 {m:Mo} (h:m.alone=0) (hk:m.kind=6):∃a,m.agents= [a]:=by
 unfold Mo.alone at h;split at h;{cases h};rename_i h1;have h1:Vy m=true:=by simpa using h1
 unfold Vy X7 at h1;rw[if_neg (by omega),if_neg (by omega),if_neg (by omega),if_neg (by omega),if_neg (by omega),if_neg (by omega),if_pos hk]at h1;simp only[Bool.and_eq_true,decide_eq_true_eq]at h1;match hm:m.agents with
 | []=>rw[hm]at h1;simp at h1
 | [a]=>exact⟨a,rfl⟩
 |a::b::r=>rw[hm]at h1;simp at h1;omega
end Go.Vm
namespace Go.Vm.Seat
variable {H:Heap} {l:List (Int×Bool)}
open Go.Proofs
theorem lkI {id:Nat} (n:Int) (hb:nth H.bx id=some (.map (mpI l))):Wr E0 84 (.map id) (.int .i64 n) false H=some (.bool (lkB n l)):=Zvr rfl rfl rfl rfl rfl hb
theorem lkS {id:Nat} {l:List (Bs×Bool)} (n:Bs) (hb:nth H.bx id=some (.map (mpS l))):Wr E0 85 (.map id) (.str n) false H=some (.bool (lkB n l)):=Zwl rfl rfl rfl rfl rfl hb
theorem upI {id:Nat} (n:Int) (v:Bool) (hb:nth H.bx id=some (.map (mpI l))) (hr:H.ro≤id):Yn E0 84 (.map id) (.int .i64 n) (.bool v) H=some {H with bx:=H.bx.set id (.map (mpI (upB n v l)))}:=ZwG v rfl rfl rfl hb hr
theorem upS {id:Nat} {l:List (Bs×Bool)} (n:Bs) (v:Bool) (hb:nth H.bx id=some (.map (mpS l))) (hr:H.ro≤id):Yn E0 85 (.map id) (.str n) (.bool v) H=some {H with bx:=H.bx.set id (.map (mpS (upB n v l)))}:=Zwv v rfl rfl rfl hb hr
def TrS (l:List Mo):Prop:=l.length≤1000∧∀m,m∈l→m.Sm
theorem c22 {l:List Mo} (hl:TrS l) (b:Bool):∀H,CO 22 [slV b 6 (moC l)] H (.tup [.int .i64 (Yf l).1,.int .i64 (Yf l).2]) H:=by
 obtain⟨hl,hm⟩:=hl;have hcl:=WX l;have gq:=Y7 ((moC l).length:Int) 400;unfold Yf;refine Jw tOk fe22.ok rfl ?_;by_cases h:400<l.length
 ·rw[decide_eq_true (by omega)]at gq;rw[if_pos h];repeat' first|refine KA ?_|fail
  all_goals rfl
 rw[decide_eq_false (by omega)]at gq;rw[if_neg h];repeat' first|refine KA ?_|fail
 refine Wp.while (fun m2 tm H=>∃(i:Nat) (base:TM) (S:FSt),i+m2=l.length∧Zfu ⟨[],[],[]⟩ l 0=Zfu S (l.drop i) i∧tm=ovr base [(4,.map 0),(5,.map 1),(6,.map 2),(16,slV b 6 (moC l)),(17,.int .i64 (l.length:Int)),(18,.int .i64 (i:Int))]∧H=⟨[.map (mpI S.a),.map (mpI S.b),.map (mpS S.r)],0,[],0⟩)
  (fun m2 tm H hI=>Wp.drop ?_) l.length _ _ ⟨0,_,⟨[],[],[]⟩,by omega,by simp,Zd ⟨rfl,rfl,rfl,rfl,Zg (by rw[hcl]),rfl,trivial⟩,rfl⟩
 obtain⟨i,base,S,hi,hgo,rfl,rfl⟩:=hI;rw[hgo];by_cases hlt:i<l.length;{obtain⟨m,hx⟩:∃m,l[i]? = some m:=⟨l[i],by simp⟩;have hj:=ZcN hx;have hA:=c45 (hm m (List.mem_of_getElem? hx));have h6:=@form_6 m;have hlx:=Zv (i:Int) (l.length:Int);rw[decide_eq_true (by omega)]at hlx;rw[ZjS hx];have n1:=Up m.alone 0;by_cases c1:m.alone=0;{rw[decide_eq_true c1]at n1;rw[c1]at hA n1;have k6:=Z0 m.kind 6;have k1:=Z0 m.kind 1;have k7:=Z0 m.kind 7;by_cases e6:m.kind=6;{rw[decide_eq_true e6]at k6;obtain⟨a,ha1⟩:=h6 c1 e6;(have hhd:m.hd=a:=by unfold Mo.hd;rw[ha1];rfl);rw[Zto c1 e6,Zsf e6,hhd];clear h6 e6 hhd k1 k7 c1;obtain⟨kd,nu,ro,an,ag,go,tn,te⟩:=m;simp only[Mo.cells]at hj hA k6 ha1;subst ha1;have ha:=YU (l:=[a]) (i:=0) rfl;have hk:=lkS (id:=2) (H:=⟨[.map (mpI S.a),.map (mpI S.b),.map (mpS S.r),.cells 6 [[.int .i64 kd,.int .i64 nu,.int .i64 ro,slV an 1 (Zp [a]),.int .i64 go,slV tn 4 (Za te)]]],0,[],0⟩) (l:=S.r) a rfl;have hu:=upS (id:=2) (H:=⟨[.map (mpI S.a),.map (mpI S.b),.map (mpS S.r),.cells 6 [[.int .i64 kd,.int .i64 nu,.int .i64 ro,slV an 1 (Zp [a]),.int .i64 go,slV tn 4 (Za te)]]],0,[],0⟩) (l:=S.r) a true rfl (Nat.zero_le _);by_cases hL:lkB a S.r=true;{rw[hL]at hk;rw[if_pos hL,if_pos (by decide)];(repeat' first|refine Jc (hA _) ?_|refine KE ?_|refine KH ?_|fail);all_goals rfl};{rw[show lkB a S.r=false by simpa using hL]at hk;rw[if_neg hL,if_neg (by decide)];(repeat' first|refine Jc (hA _) ?_|refine KE ?_|(apply qMu;rfl;rfl;rfl;rfl;assumption)|refine KH ?_|fail);refine DropQ.go [(4,.map 0),(5,.map 1),(6,.map 2),(16,slV b 6 (moC l)),(17,.int .i64 (l.length:Int)),(18,.int .i64 ((i+1:Nat):Int))] ?_ ?_ rfl ?_ ?_;{exact⟨rfl,rfl,rfl,rfl,rfl,Zg (Ze (n:=i+1) (by omega)),trivial⟩};{simp[Zl,under]};{simp[Zjo,ZjO]};{exact LoopI.go (m2-1) (by omega) ⟨i+1,_,⟨S.a,S.b,upB a true S.r⟩,by omega,rfl,rfl,rfl⟩}}};clear h6;rw[decide_eq_false e6]at k6;by_cases e1:m.kind=1;{rw[decide_eq_true e1]at k1;rw[ZsN c1 e6 e1,ZsX e6 e1];clear e6 e1 k7 c1;obtain⟨kd,nu,ro,an,ag,go,tn,te⟩:=m;simp only[Mo.cells]at hj hA k6 k1 ⊢;have hk:=lkI (id:=0) (H:=⟨[.map (mpI S.a),.map (mpI S.b),.map (mpS S.r),.cells 6 [[.int .i64 kd,.int .i64 nu,.int .i64 ro,slV an 1 (Zp ag),.int .i64 go,slV tn 4 (Za te)]]],0,[],0⟩) (l:=S.a) nu rfl;have hu:=upI (id:=0) (H:=⟨[.map (mpI S.a),.map (mpI S.b),.map (mpS S.r),.cells 6 [[.int .i64 kd,.int .i64 nu,.int .i64 ro,slV an 1 (Zp ag),.int .i64 go,slV tn 4 (Za te)]]],0,[],0⟩) (l:=S.a) nu true rfl (Nat.zero_le _);by_cases hL:lkB nu S.a=true;{rw[hL]at hk;rw[if_pos hL,if_pos (by decide)];(repeat' first|refine Jc (hA _) ?_|refine KE ?_|refine KH ?_|fail);all_goals rfl};{rw[show lkB nu S.a=false by simpa using hL]at hk;rw[if_neg hL,if_neg (by decide)];(repeat' first|refine Jc (hA _) ?_|refine KE ?_|(apply qMu;rfl;rfl;rfl;rfl;assumption)|refine KH ?_|fail);refine DropQ.go [(4,.map 0),(5,.map 1),(6,.map 2),(16,slV b 6 (moC l)),(17,.int .i64 (l.length:Int)),(18,.int .i64 ((i+1:Nat):Int))] ?_ ?_ rfl ?_ ?_;{exact⟨rfl,rfl,rfl,rfl,rfl,Zg (Ze (n:=i+1) (by omega)),trivial⟩};{simp[Zl,under]};{simp[Zjo,ZjO]};{exact LoopI.go (m2-1) (by omega) ⟨i+1,_,⟨upB nu true S.a,S.b,S.r⟩,by omega,rfl,rfl,rfl⟩}}};rw[decide_eq_false e1]at k1;rw[Zth c1 e6 e1,Zr8 e6 e1];clear e6 e1 c1;obtain⟨kd,nu,ro,an,ag,go,tn,te⟩:=m;simp only[Mo.cells]at hj hA k6 k1 k7 ⊢;generalize decide (kd=7)=D at k7 ⊢;have hk:=lkI (id:=0) (H:=⟨[.map (mpI S.a),.map (mpI S.b),.map (mpS S.r),.cells 6 [[.int .i64 kd,.int .i64 nu,.int .i64 ro,slV an 1 (Zp ag),.int .i64 go,slV tn 4 (Za te)]]],0,[],0⟩) (l:=S.a) nu rfl;have hk2:=lkI (id:=1) (H:=⟨[.map (mpI S.a),.map (mpI S.b),.map (mpS S.r),.cells 6 [[.int .i64 kd,.int .i64 nu,.int .i64 ro,slV an 1 (Zp ag),.int .i64 go,slV tn 4 (Za te)]]],0,[],0⟩) (l:=S.b) nu rfl;have hu:=upI (id:=1) (H:=⟨[.map (mpI S.a),.map (mpI S.b),.map (mpS S.r),.cells 6 [[.int .i64 kd,.int .i64 nu,.int .i64 ro,slV an 1 (Zp ag),.int .i64 go,slV tn 4 (Za te)]]],0,[],0⟩) (l:=S.b) nu D rfl (Nat.zero_le _);by_cases hL:lkB nu S.a=true;{rw[hL]at hk;by_cases hL2:lkB nu S.b=true;{rw[hL2]at hk2;rw[if_pos (show lkB nu S.a=false∨lkB nu S.b=true from .inr hL2),if_pos (by decide)];(repeat' first|refine Jc (hA _) ?_|refine KE ?_|refine KH ?_|fail);all_goals rfl};{rw[show lkB nu S.b=false by simpa using hL2]at hk2;rw[if_neg (show ¬ (lkB nu S.a=false∨lkB nu S.b=true) by simp[hL,hL2]),if_neg (by decide)];(repeat' first|refine Jc (hA _) ?_|refine KE ?_|(apply qMu;rfl;rfl;rfl;rfl;assumption)|refine KH ?_|fail);refine DropQ.go [(4,.map 0),(5,.map 1),(6,.map 2),(16,slV b 6 (moC l)),(17,.int .i64 (l.length:Int)),(18,.int .i64 ((i+1:Nat):Int))] ?_ ?_ rfl ?_ ?_;{exact⟨rfl,rfl,rfl,rfl,rfl,Zg (Ze (n:=i+1) (by omega)),trivial⟩};{simp[Zl,under]};{simp[Zjo,ZjO]};{exact LoopI.go (m2-1) (by omega) ⟨i+1,_,⟨S.a,upB nu D S.b,S.r⟩,by omega,rfl,rfl,rfl⟩}}};{(have hL:lkB nu S.a=false:=by simpa using hL);rw[hL]at hk;rw[if_pos (show lkB nu S.a=false∨lkB nu S.b=true from .inl hL),if_pos (by decide)];(repeat' first|refine Jk ?_|refine Jc (hA _) ?_|refine KE ?_|refine KH ?_|fail);all_goals rfl}};{rw[decide_eq_false c1]at n1;rw[Zjg c1,if_pos c1];clear h6;generalize m.alone=e at hA n1 ⊢;obtain⟨kd,nu,ro,an,ag,go,tn,te⟩:=m;simp only[Mo.cells]at hj hA;(repeat' first|refine Jc (hA _) ?_|refine KQ ?_|fail);all_goals rfl}}
 ·have e:i=l.length:=by omega
  subst e;have hlx:=Zv (l.length:Int) (l.length:Int);rw[decide_eq_false (by omega)]at hlx;rw[List.drop_length];repeat' first|refine Kk ?_|fail
  all_goals rfl
end Go.Vm.Seat
namespace Go.Vm
variable {S:FSt} {p:List Mo} {m x:Mo} {e s:Bool} {i:Nat}
def Vo:List Mo→Mo→Bool→Bool→Int
 | [],m,s,e=>if(decide (m.kind=1)&&s)=true then 5 else if(!decide (m.kind=1)&&(!decide (m.kind=6)&&(!s||e)))=true then 9 else 0
 |x::r,m,s,e=>if m.kind=6∧x.kind=6∧x.hd=m.hd then 5 else if x.num=m.num then Vo r m (s||decide (x.kind=1)) (e||decide (x.kind=7)) else Vo r m s e
def Zg4:List Mo→List Mo→Int×Int
 |_,[]=>(-1,0)
 |p,m::r=>if m.alone≠0 then((p.length:Int),m.alone) else if Vo p m false false≠0 then((p.length:Int),Vo p m false false) else Zg4 (p++ [m]) r
def YF (l:List Mo):Int×Int:=if 400<l.length then(-1,3) else Zg4 [] l
def ZeA (p:List Mo) (k n:Int):Bool:=p.any fun x=>decide (x.num=n)&&decide (x.kind=k)
def ZhR (p:List Mo) (a:Bs):Bool:=p.any fun x=>decide (x.kind=6)&&decide (x.hd=a)
theorem ZkE (m:Mo):∀(p:List Mo) (s e:Bool),Vo p m s e=if m.kind=6 then(if ZhR p m.hd=true then 5 else 0) else if m.kind=1 then(if(s||ZeA p 1 m.num)=true then 5 else 0) else if(!(s||ZeA p 1 m.num)||(e||ZeA p 7 m.num))=true then 9 else 0
 | [],s,e=>by
  have a1:¬ ZhR [] m.hd=true:=by simp[ZhR]
  have a2:∀k,ZeA [] k m.num=false:=fun _=>rfl;rw[if_neg a1,a2,a2,Bool.or_false,Bool.or_false];simp only[Vo];by_cases h6:m.kind=6;{rw[if_neg (by simp[h6]),if_neg (by simp[h6]),if_pos h6]};rw[if_neg h6];by_cases h1:m.kind=1;{rw[if_pos h1];cases s;{rw[if_neg (by simp),if_neg (by simp[h1])];rfl};{rw[if_pos (by simp[h1])];rfl}};rw[if_neg h1,if_neg (by simp[h1])];simp only[h1,h6,decide_false,Bool.not_false,Bool.true_and]
 |x::r,s,e=>by
  simp only[Vo];have ih:=ZkE m r;by_cases h6:m.kind=6
  ·rw[if_pos h6];by_cases hx:x.kind=6∧x.hd=m.hd;{rw[if_pos ⟨h6,hx⟩,if_pos];simp[ZhR,hx.1,hx.2]}
   ·rw[if_neg fun h => hx h.2];have e1:ZhR (x::r) m.hd=ZhR r m.hd:=by
     simp only[ZhR,List.any_cons];rw[show(decide (x.kind=6)&&decide (x.hd=m.hd))=false by
      cases h:(decide (x.kind=6)&&decide (x.hd=m.hd)) with
      | false=>rfl
      | true=>rw[Bool.and_eq_true,decide_eq_true_eq,decide_eq_true_eq]at h;exact absurd h hx,Bool.false_or]
    rw[e1,ih,ih,if_pos h6,if_pos h6,ite_self]
  {rw[if_neg fun h=>h6 h.1,ih,ih,if_neg h6,if_neg h6,if_neg h6];have e1:∀k,ZeA (x::r) k m.num=((decide (x.num=m.num)&&decide (x.kind=k))||ZeA r k m.num):=fun k=>rfl;rw[e1,e1];by_cases hn:x.num=m.num;{rw[if_pos hn];simp only[hn,decide_true,Bool.true_and,Bool.or_assoc]};{rw[if_neg hn];simp only[hn,decide_false,Bool.false_and,Bool.false_or]}}
structure Kn (S:FSt) (p:List Mo):Prop where
 a:∀n,lkB n S.a=ZeA p 1 n
 b:∀n,lkB n S.b=ZeA p 7 n
 r:∀s,lkB s S.r=ZhR p s
theorem ZfT (h:Kn S p) (m:Mo):S.bhd m=Vo p m false false:=by rw[ZkE];unfold FSt.bhd;rw[h.a,h.b,h.r,Bool.false_or,Bool.false_or];congr 2;cases ZeA p 1 m.num<;>cases ZeA p 7 m.num<;>simp
theorem WL (p:List Mo) (m:Mo) (k n:Int):ZeA (p++ [m]) k n=(ZeA p k n||(decide (m.num=n)&&decide (m.kind=k))):=by simp[ZeA]
theorem Zda (p:List Mo) (m:Mo) (a:Bs):ZhR (p++ [m]) a=(ZhR p a||(decide (m.kind=6)&&decide (m.hd=a))):=by simp[ZhR]
theorem Znq (h:Kn S p) (hb:S.bhd m=0):Kn (S.nxt m) (p++ [m]):=by
 obtain⟨h1,h2,h3⟩:=h;unfold FSt.bhd at hb;unfold FSt.nxt;by_cases h6:m.kind=6;{rw[if_pos h6];refine⟨fun n=>?_,fun n=>?_,fun s=>?_⟩;{rw[WL,h1,h6];simp};{rw[WL,h2,h6];simp};{rw[Zda];show lkB s (upB m.hd true S.r)=_;rw[Zml,h3,h6];by_cases e:s=m.hd;{rw[if_pos e,e];simp};{rw[if_neg e];have:¬ m.hd=s:=fun h=>e h.symm;simp[this]}}};rw[if_neg h6]at hb ⊢;have hH:∀s,lkB s S.r=ZhR (p++ [m]) s:=fun s=>by rw[Zda,h3];simp[h6]
 by_cases e1:m.kind=1;{rw[if_pos e1];refine⟨fun n=>?_,fun n=>?_,hH⟩;{rw[WL];show lkB n (upB m.num true S.a)=_;rw[Zml,h1,e1];by_cases e:n=m.num;{rw[if_pos e,e];simp};{rw[if_neg e];have:¬ m.num=n:=fun h=>e h.symm;simp[this]}};{rw[WL,h2,e1];simp}};rw[if_neg e1]at hb ⊢;refine⟨fun n=>?_,fun n=>?_,hH⟩;{rw[WL,h1];simp[e1]}
 ·rw[WL];show lkB n (upB m.num (decide (m.kind=7)) S.b)=_;rw[Zml,h2];by_cases e:n=m.num
  ·rw[if_pos e, e];have hb2:ZeA p 7 m.num=false:=by
    rw[h1,h2]at hb;split at hb;{cases hb}
    ·rename_i hx;cases hy:ZeA p 7 m.num with
     | false=>rfl
     | true=>exact absurd (.inr hy) hx
   rw[hb2];simp
  {rw[if_neg e];have:¬ m.num=n:=fun h=>e h.symm;simp[this]}
theorem Zf9:∀(l p:List Mo) (S:FSt),Kn S p→(Zfu S l p.length).2=(Zg4 p l).2
 | [],p,S,_=>rfl
 |m::r,p,S,h=>by simp only[Zfu,Zg4];by_cases c:m.alone≠0;{rw[Zjg c,if_pos c,if_pos c]};have e:S.err m=S.bhd m:=if_neg c;rw[e,ZfT h,if_neg c];by_cases c2:Vo p m false false≠0;{rw[if_pos c2,if_pos c2]};rw[if_neg c2,if_neg c2];have h2:=Znq h (m:=m) (by rw[ZfT h];exact Classical.not_not.1 c2);have:=Zf9 r (p++ [m]) _ h2;rwa [List.length_append]at this
theorem Zhg (l:List Mo):(Yf l).2=(YF l).2:=by unfold Yf YF;split;{rfl};{exact Zf9 l [] _ ⟨fun _=>rfl,fun _=>rfl,fun _=>rfl⟩}
theorem Zq5 {E:Env} {t e:TypeId} {ti ei:TI} {es:Nat} (hT:E.T t=some ti) (hk:ti.tk= .slice e) (he:E.T e=some ei) (hes:ei.size=es) (b:Bool) {L:List (List PV)} (hne:L≠ []) {k:Nat} (hl:k≤L.length):Z1 E t (slV b es L) none (some (.int .i64 (k:Int))) none=some (slV false es (L.take k)):=by
 have hn:nat? (.int .i64 (k:Int))=some k:=by simp[nat?]
 obtain⟨c,r,rfl⟩:∃c r,L=c::r:=by cases L with
  | nil=>exact absurd rfl hne
  | cons c r=>exact⟨c,r,rfl⟩
 rw[Zr,Yo];simp only[Z1,hT,hk,he,hes,if_true,ZcK,XS,hn];rw[if_pos (by simpa using hl)];simp[ZcZ]
theorem Zl6 (l:List Mo) (k:Nat):(moC l).take k=moC (l.take k):=by simp[moC]
theorem ZaG (h:p[i]? = some x) (m:Mo) (s e:Bool):Vo (p.drop i) m s e=if m.kind=6∧x.kind=6∧x.hd=m.hd then 5 else if x.num=m.num then Vo (p.drop (i+1)) m (s||decide (x.kind=1)) (e||decide (x.kind=7)) else Vo (p.drop (i+1)) m s e:=by rw[ZB h];rfl
theorem Zxb (h:p[i]? = some x) (h1:m.kind=6) (h2:x.kind=6) (h3:x.hd=m.hd):Vo (p.drop i) m s e=5:=by rw[ZaG h,if_pos ⟨h1,h2,h3⟩]
theorem ZuS (h:p[i]? = some x) (h1:¬ (m.kind=6∧x.kind=6∧x.hd=m.hd)) (h2:x.num=m.num):Vo (p.drop i) m s e=Vo (p.drop (i+1)) m (s||decide (x.kind=1)) (e||decide (x.kind=7)):=by rw[ZaG h,if_neg h1,if_pos h2]
theorem ZuX (h:p[i]? = some x) (h1:¬ (m.kind=6∧x.kind=6∧x.hd=m.hd)) (h2:¬ x.num=m.num):Vo (p.drop i) m s e=Vo (p.drop (i+1)) m s e:=by rw[ZaG h,if_neg h1,if_neg h2]
theorem Zh5 {l:List Mo} (h:l[i]? = some m):Zg4 p (l.drop i)=if m.alone≠0 then((p.length:Int),m.alone) else if Vo p m false false≠0 then((p.length:Int),Vo p m false false) else Zg4 (p++ [m]) (l.drop (i+1)):=by rw[ZB h];rfl
end Go.Vm
namespace Go.Vm.Seat
open Go.Proofs
theorem Zr7 (a b:Bs):YS E0 .eql 9 (.str a) (.str b)=some (.bool (decide (a=b))):=by show some (PV.bool (a==b))=_;by_cases h:a=b<;>simp[h]
theorem c47 {p:List Mo} (hp:p.length≤1000) {m:Mo} (h6:m.kind=6→∃a,m.agents= [a]) (hp6:∀x,x∈p→x.kind=6→∃a,x.agents= [a]) (b:Bool):∀H,CO 47 [slV b 6 (moC p),.agg m.cells] H (.int .i64 (Vo p m false false)) H:=by
 have hcl:=WX p;obtain⟨kd,nu,ro,an,ag,go,tn,te⟩:=m;simp only[Mo.cells]at h6 ⊢;refine Jw tOk fe47.ok rfl ?_ (by simp only[ZG,Xv];simp only[frzG,Wm,ZM];rfl);repeat' first|refine Ka ?_|fail
 have K6:=Z0 kd 6;refine Wp.while (fun m2 tm H=>∃(i:Nat) (base:TM) (s e:Bool),i+m2=p.length∧Vo p ⟨kd,nu,ro,an,ag,go,tn,te⟩ false false=Vo (p.drop i) ⟨kd,nu,ro,an,ag,go,tn,te⟩ s e∧tm=ovr base [(0,slV b 6 (moC p)),(3,.ptr 0 6 0 0),(5,.bool s),(6,.bool e),(7,.int .i64 (i:Int))]∧H=⟨[.cells 6 [[.int .i64 kd,.int .i64 nu,.int .i64 ro,slV an 1 (Zp ag),.int .i64 go,slV tn 4 (Za te)]]],0,[],0⟩)
  (fun m2 tm H hI=>?_) p.length _ _ ⟨0,_,false,false,by omega,by simp,Zd ⟨rfl,rfl,rfl,rfl,rfl,trivial⟩,rfl⟩
 obtain⟨i,base,s,e,hi,hgo,rfl,rfl⟩:=hI;rw[hgo];clear hgo;by_cases hlt:i<p.length
 ·obtain⟨x,hx⟩:∃x,p[i]? = some x:=⟨p[i],by simp⟩;have hj:=ZcN hx;have hx6:=hp6 x (List.mem_of_getElem? hx);have hlx:=Zv (i:Int) ((moC p).length:Int);rw[decide_eq_true (by omega)]at hlx;obtain⟨kd2,nu2,ro2,an2,ag2,go2,tn2,te2⟩:=x;simp only[Mo.cells]at hj;have J6:=Z0 kd2 6;have W1:=Z0 kd2 1;have W7:=Z0 kd2 7;have N1:=Z0 nu2 nu;simp only at hx6;by_cases hk:kd=6∧kd2=6
  ·obtain⟨a,rfl⟩:=h6 hk.1;obtain⟨a2,rfl⟩:=hx6 hk.2;have ha:=YU (l:=[a]) (i:=0) rfl;have ha2:=YU (l:=[a2]) (i:=0) rfl;have S3:=Zr7 a2 a;rw[decide_eq_true hk.1]at K6;rw[decide_eq_true hk.2]at J6;by_cases hs:a2=a;{rw[decide_eq_true hs]at S3;have hE:Vo (p.drop i) ⟨kd,nu,ro,an,[a],go,tn,te⟩ s e=5:=Zxb hx hk.1 hk.2 hs;rw[hE];(repeat' first|refine KA ?_|refine JD ?_|refine JI ?_|refine KV ?_|fail);all_goals rfl};rw[decide_eq_false hs]at S3;by_cases hN:nu2=nu
   ·rw[decide_eq_true hN]at N1;have hE:Vo (p.drop i) ⟨kd,nu,ro,an,[a],go,tn,te⟩ s e=Vo (p.drop (i+1)) ⟨kd,nu,ro,an,[a],go,tn,te⟩ (s||decide (kd2=1)) (e||decide (kd2=7)):=ZuS hx (fun h=>hs h.2.2) hN;rw[hE];generalize decide (kd2=1)=w1 at W1 ⊢;generalize decide (kd2=7)=w7 at W7 ⊢;clear hE;cases s<;>cases e;all_goals
     repeat' first|refine Jk ?_|refine KI ?_|refine JD ?_|refine JI ?_|refine KC ?_|fail
     exact LoopI.go (m2-1) (by omega) ⟨i+1,_,_,_,by omega,rfl,Zd ⟨rfl,rfl,rfl,rfl,Zg (Ze (n:=i+1) (by omega)),trivial⟩,rfl⟩
   {rw[decide_eq_false hN]at N1;have hE:Vo (p.drop i) ⟨kd,nu,ro,an,[a],go,tn,te⟩ s e=Vo (p.drop (i+1)) ⟨kd,nu,ro,an,[a],go,tn,te⟩ s e:=ZuX hx (fun h=>hs h.2.2) hN;rw[hE];(repeat' first|refine KA ?_|refine JD ?_|refine JI ?_|refine KC ?_|fail);exact LoopI.go (m2-1) (by omega) ⟨i+1,_,_,_,by omega,rfl,Zd ⟨rfl,rfl,rfl,rfl,Zg (Ze (n:=i+1) (by omega)),trivial⟩,rfl⟩}
  ·clear h6 hx6;(have hor:decide (kd=6)=false∨(decide (kd=6)=true∧decide (kd2=6)=false):=by by_cases h:kd=6;{right;exact⟨decide_eq_true h,decide_eq_false fun h2=>hk ⟨h,h2⟩⟩};{exact .inl (decide_eq_false h)});generalize decide (kd=6)=D6 at K6 hor;generalize decide (kd2=6)=E6 at J6 hor;by_cases hN:nu2=nu
   ·rw[decide_eq_true hN]at N1;have hE:Vo (p.drop i) ⟨kd,nu,ro,an,ag,go,tn,te⟩ s e=Vo (p.drop (i+1)) ⟨kd,nu,ro,an,ag,go,tn,te⟩ (s||decide (kd2=1)) (e||decide (kd2=7)):=ZuS hx (fun h=>hk ⟨h.1,h.2.1⟩) hN;rw[hE];generalize decide (kd2=1)=w1 at W1 ⊢;generalize decide (kd2=7)=w7 at W7 ⊢;clear hE;rcases hor with rfl|⟨rfl,rfl⟩<;>cases s<;>cases e;all_goals
     repeat' first|refine Jk ?_|refine KI ?_|refine KM ?_|refine JD ?_|refine JI ?_|refine KC ?_|fail
     exact LoopI.go (m2-1) (by omega) ⟨i+1,_,_,_,by omega,rfl,Zd ⟨rfl,rfl,rfl,rfl,Zg (Ze (n:=i+1) (by omega)),trivial⟩,rfl⟩
   ·rw[decide_eq_false hN]at N1;have hE:Vo (p.drop i) ⟨kd,nu,ro,an,ag,go,tn,te⟩ s e=Vo (p.drop (i+1)) ⟨kd,nu,ro,an,ag,go,tn,te⟩ s e:=ZuX hx (fun h=>hk ⟨h.1,h.2.1⟩) hN;rw[hE];rcases hor with rfl|⟨rfl,rfl⟩;all_goals
     repeat' first|refine KA ?_|refine KM ?_|refine JD ?_|refine JI ?_|refine KC ?_|fail
     exact LoopI.go (m2-1) (by omega) ⟨i+1,_,_,_,by omega,rfl,Zd ⟨rfl,rfl,rfl,rfl,Zg (Ze (n:=i+1) (by omega)),trivial⟩,rfl⟩
 ·have ei:i=p.length:=by omega
  subst ei;have hlx:=Zv (p.length:Int) ((moC p).length:Int);rw[decide_eq_false (by omega)]at hlx;rw[List.drop_length];simp only[Vo];have Q1:=Z0 kd 1;have P1:=ZfI kd 1;have P6:=ZfI kd 6;generalize decide (kd=1)=B1 at Q1 P1 ⊢;generalize decide (kd=6)=B6 at P6 K6 ⊢;cases B1<;>cases B6<;>cases s<;>cases e;all_goals
   repeat' first|refine Jk ?_|refine Kw ?_|fail
   all_goals rfl
theorem c23 {l:List Mo} (hl:TrS l) (b:Bool):∀H,CO 23 [slV b 6 (moC l)] H (.tup [.int .i64 (YF l).1,.int .i64 (YF l).2]) H:=by
 obtain⟨hl,hm⟩:=hl;have hcl:=WX l;have gq:=Y7 ((moC l).length:Int) 400;unfold YF;refine Jw tOk fe23.ok rfl ?_;by_cases h:400<l.length
 ·rw[decide_eq_true (by omega)]at gq;rw[if_pos h];repeat' first|refine KA ?_|fail
  all_goals rfl
 rw[decide_eq_false (by omega)]at gq;rw[if_neg h];repeat' first|refine KA ?_|fail
 refine Wp.while (fun m2 tm H=>∃(i:Nat) (base:TM),i+m2=l.length∧(∀x,x∈l.take i→x.alone=0)∧Zg4 [] l=Zg4 (l.take i) (l.drop i)∧tm=ovr base [(0,slV b 6 (moC l)),(4,.int .i64 (i:Int))]∧H=⟨[],0,[],0⟩)
  (fun m2 tm H hI=>?_) l.length _ _ ⟨0,_,by omega,by simp,by simp,Zd ⟨rfl,rfl,trivial⟩,rfl⟩
 obtain⟨i,base,hi,hal,hgo,rfl,rfl⟩:=hI;rw[hgo];by_cases hlt:i<l.length
 ·obtain⟨m,hx⟩:∃m,l[i]? = some m:=⟨l[i],by simp⟩;have hj:=ZcN hx;have hA:=c46 (hm m (List.mem_of_getElem? hx));have hlx:=Zv (i:Int) ((moC l).length:Int);rw[decide_eq_true (by omega)]at hlx;have htk:l.take (i+1)=l.take i++ [m]:=by rw[List.take_add_one,hx];rfl
  have hsl:Z1 E0 22 (slV b 6 (moC l)) none (some (.int .i64 (i:Int))) none=some (slV false 6 (moC (l.take i))):=by rw[← Zl6];exact Zq5 (E:=E0) (t:=22) (L:=moC l) (es:=6) rfl rfl rfl rfl b (fun h=>by rw[h]at hcl;simp at hcl;omega) (by omega)
  rw[Zh5 hx,List.length_take,show min i l.length=i by omega];have n1:=Up m.alone 0;by_cases c1:m.alone=0;{have hB:=c47 (p:=l.take i) (by rw[List.length_take];omega) (form_6 c1) (fun x hx=>form_6 (hal x hx)) false;(have hal2:∀x,x∈l.take (i+1)→x.alone=0:=fun x hx=>by rw[htk]at hx;rcases List.mem_append.1 hx with h|h;{exact hal x h};{rw[List.mem_singleton.1 h];exact c1});rw[decide_eq_true c1]at n1;rw[if_neg (by omega:¬ m.alone≠0)];rw[c1]at hA n1;have n2:=Up (Vo (l.take i) m false false) 0;rw[← htk];generalize Vo (l.take i) m false false=B at hB n2 ⊢;obtain⟨kd,nu,ro,an,ag,go,tn,te⟩:=m;simp only[Mo.cells]at hA hB hj;by_cases c2:B=0;{rw[decide_eq_true c2]at n2;rw[if_neg (by omega)];(repeat' first|refine Jc (hA _) ?_|refine Kf ?_|refine KB ?_|refine Jd (hB _) ?_|refine Ke ?_|refine JI ?_|refine Kb ?_|fail);exact LoopI.go (m2-1) (by omega) ⟨i+1,_,by omega,hal2,rfl,Zd ⟨rfl,Zg (Ze (n:=i+1) (by omega)),trivial⟩,rfl⟩};{rw[decide_eq_false c2]at n2;rw[if_pos c2];(repeat' first|refine Jc (hA _) ?_|refine Kf ?_|refine KB ?_|refine Jd (hB _) ?_|refine Ke ?_|refine JI ?_|refine Kb ?_|fail);all_goals rfl}};{rw[decide_eq_false c1]at n1;rw[if_pos c1];generalize m.alone=e at hA n1 ⊢;obtain⟨kd,nu,ro,an,ag,go,tn,te⟩:=m;simp only[Mo.cells]at hA hj;(repeat' first|refine Jc (hA _) ?_|refine Kf ?_|refine KB ?_|fail);all_goals rfl}
 ·have e:i=l.length:=by omega
  subst e;have hlx:=Zv (l.length:Int) ((moC l).length:Int);rw[decide_eq_false (by omega)]at hlx;rw[List.drop_length];repeat' first|refine KA ?_|fail
  all_goals rfl
