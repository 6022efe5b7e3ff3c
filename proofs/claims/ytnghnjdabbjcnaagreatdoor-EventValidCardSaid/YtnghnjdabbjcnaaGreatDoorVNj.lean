/-
  A term of a symbol, as the second text makes it; decryption and opening.
-/
import Derived.Test.YtnghnjdabbjcnaaGreatDoorVNi
import Derived.Test.YtnghnjdabbjcnaaGreatDoorVVc
set_option maxHeartbeats 0
set_option maxRecDepth 100000
namespace Go.Vm
variable {B:Int} {l:List Pw}
def PwB (B:Int) (l:List Pw):Prop:=∀x,x∈l→(x.1.Ok∧x.1.size≤100000)∧ -B≤x.2∧x.2≤B
theorem PwB.tail {x:Pw} {r:List Pw} (h:PwB B (x::r)):PwB B r:=fun t ht=>h t (List.mem_cons_of_mem _ ht)
theorem PwB.mono {C:Int} (h:PwB B l) (hc:B≤C):PwB C l:=fun x hx=>⟨(h x hx).1,by have:=(h x hx).2;omega,by have:=(h x hx).2;omega⟩
theorem PwB.nil (B:Int):PwB B []:=fun x hx=>by simp at hx
theorem PwB.ins {c:Int} {t:Tm} {n:Int} (h:PwB B l) (ht:t.Ok∧t.size≤100000) (hn: -c≤n∧n≤c) (hB:0≤B) (hc:0≤c):PwB (B+c) (WV l t n):=by
 induction l with
 |nil=>intro x hx;simp only[WV,List.mem_singleton]at hx;subst hx;exact⟨ht,by show -(B+c)≤n;omega,by show n≤B+c;omega⟩
 |cons y r ih=>have hy:=h y List.mem_cons_self;have hr:PwB (B+c) r:=h.tail.mono (by omega);have hyc:(y.1.Ok∧y.1.size≤100000)∧ -(B+c)≤y.2∧y.2≤B+c:=⟨hy.1,by omega,by omega⟩;intro x hx;simp only[WV]at hx;split at hx;{rcases List.mem_cons.1 hx with rfl|hx;{exact hyc};{exact ih h.tail x hx}};{split at hx;{rcases List.mem_cons.1 hx with rfl|hx;{exact⟨ht,by show -(B+c)≤n;omega,by show n≤B+c;omega⟩};{rcases List.mem_cons.1 hx with rfl|hx;{exact hyc};{exact hr x hx}}};{split at hx;{exact hr x hx};{rcases List.mem_cons.1 hx with rfl|hx;{exact⟨hy.1,by show -(B+c)≤y.2+n;omega,by show y.2+n≤B+c;omega⟩};{exact hr x hx}}}}
theorem Zng (t:Tm) (n:Int) (o:List Pw) (d:Bool) (x:Pw) (L Z M:Bool) (m:Int) (hL:L=decide (t.cmp x.1<0)) (hZ:Z=decide (t.cmp x.1=0)) (hm:m=if Z=true then x.2+n else x.2) (hM:M= !decide (m=0)):Yz t n (o,d) x=(if M=true then(if(!d&&L)=true then o++ [(t,n)] else o)++ [(x.1,m)] else(if(!d&&L)=true then o++ [(t,n)] else o),d||(L||Z)):=by
 subst hL hZ hM;unfold Yz;by_cases h1:t.cmp x.1<0
 ·have h2:¬ t.cmp x.1=0:=by omega
  simp only[h2,decide_false,Bool.false_eq_true,if_false]at hm;subst hm;cases d<;>simp[h1,h2]<;>split<;>simp_all
 {by_cases h2:t.cmp x.1=0;{simp only[h2,decide_true,if_true]at hm;subst hm;cases d<;>simp[h2]<;>split<;>simp_all};{simp only[h2,decide_false,Bool.false_eq_true,if_false]at hm;subst hm;cases d<;>simp[h1,h2]<;>split<;>simp_all}}
theorem ZcW (t:Tm) (n:Int):∀(l:List Pw) (s:List Pw×Bool),(l.foldl (Yz t n) s).1.length≤s.1.length+2*l.length
 | [],s=>by simp
 | x :: r, s => by
   have h:=ZcW t n r (Yz t n s x)
   have h2:(Yz t n s x).1.length≤s.1.length+2:=by
    unfold Yz
    dsimp only
    repeat' split
    all_goals first
     | omega
     | (simp only[List.length_append,List.length_singleton];omega)
   rw[List.foldl_cons,List.length_cons]
   omega
end Go.Vm
namespace Go.Vm.Seat
variable {l:List Pw} {L:List Tm} {t:Tm}
open Go.Proofs
def pwL (l:List Pw):List (List PV):=l.map pwC
theorem ZT (l:List Pw):(pwL l).length=l.length:=by simp[pwL]
theorem Xb {i:Nat} {x:Pw} (h:l[i]? = some x):(pwL l)[i]? = some (pwC x):=by simp[pwL,h]
theorem Ze2 (l m:List Pw):pwL (l++m)=pwL l++pwL m:=by simp[pwL]
theorem ZaB (l:List Pw):(pwL l).all (fun c=>c.all ZL)=true:=by rw[pwL,List.all_map,List.all_eq_true];rintro⟨⟨k,nm,s,b,kz⟩,n⟩ _;simp[pwC,Tm.cells,Yd];exact⟨rfl,rfl,rfl,rfl⟩
theorem ZhA (l:List Pw):noB (pwL l)=true:=by simp only[pwL,noB,List.all_map,List.all_eq_true];rintro⟨⟨k,nm,s,b,kz⟩,n⟩ _;rfl
theorem apT_pw:ApT E0 207 207 5 64:=⟨_,_,_,_,_,rfl,rfl,rfl,rfl,rfl,rfl,rfl,by decide,rfl⟩
theorem ZqN {L:List Pw} {out:PV} {lv:List Nat} {nt:Nat} (hA:ApV true 5 (pwL L) out lv nt) (x:Pw) (hL:L.length≤1000000):∃out' lv' nt',(∀bx ro,ZP E0 207 207 out (.sl .full 5 [pwC x]) ⟨bx,ro,lv,nt⟩=some (out',⟨bx,ro,lv',nt'⟩))∧ApV true 5 (pwL (L++ [x])) out' lv' nt':=by obtain⟨out',lv',nt',hap,hA', -⟩:=hA.app apT_pw (.sl .full 5 (pwL [x])) (ZaB _) (ZR (by simp only[ZT,List.length_cons,List.length_nil];omega) (by decide)) (ZhA _);rw[← Ze2]at hA';exact⟨out',lv',nt',hap,hA'⟩
theorem Zu (a b:Int):XM E0 .lss 3 (.int .i64 a) (.int .i64 b)=some (.bool (decide (a<b))):=rfl
theorem Z8 (a b:Int):XM E0 .eql 3 (.int .i64 a) (.int .i64 b)=some (.bool (decide (a=b))):=by show some (PV.bool (a==b))=_;by_cases h:a=b<;>simp[h]
theorem Q9 (a b:Int):XM E0 .neq 3 (.int .i64 a) (.int .i64 b)=some (.bool (!decide (a=b))):=by show some (PV.bool (!(a==b)))=_;by_cases h:a=b<;>simp[h]
theorem ZaJ {a b:Int} (h: -9223372036854775808≤a+b) (h':a+b≤9223372036854775807):XM E0 .add 3 (.int .i64 a) (.int .i64 b)=some (.int .i64 (a+b)):=by show some (PV.int .i64 (IntKind.i64.wrap (a+b)))=_;rw[IntWalk.i64_in _ (by omega)]
theorem ZtC {u:Tm} (ht:t.Ok∧t.size≤100000) (hu:u.Ok∧u.size≤100000):∀H,CO 92 [.agg t.cells,.agg u.cells] H (.int .i64 (t.cmp u)) H:=fun H=>
 Zqa (d92 ht.1 hu.1 (by have:=ht.2;omega) (by have:=hu.2;omega) H)
theorem Zto {n:Int} (hl:PwB 1000000000 l) (ht:t.Ok∧t.size≤100000) (hn: -1000000000≤n∧n≤1000000000) (hlen:l.length≤100000) (b:Bool):∀H,CO 250 [slV b 5 (pwL l),.agg t.cells,.int .i64 n] H (slV true 5 (pwL (Zj4 l t n))) H:=by
 have hcmp:∀x,x∈l→∀H,CO 92 [.agg t.cells,.agg x.1.cells] H (.int .i64 (t.cmp x.1)) H:=fun x hx=>ZtC ht (hl x hx).1;have hlen0:=fun i=>ZcW t n (l.take i) ([],false);have hadd : Zj4 l t n = match l.foldl (Yz t n) ([], false) with
       | (o,true)=>o
       | (o,false)=>o++ [(t,n)]:=rfl
 rw[hadd];clear hadd;obtain⟨T,hT⟩:∃T,T=t:=⟨_,rfl⟩;rw[← hT]at hcmp hlen0 ⊢;have hTc:pwC (T,n)=t.cells++ [.int .i64 n]:=by rw[hT];rfl
 have hTc2:T.cells=t.cells:=by rw[hT]
 rw[hTc2];rw[hTc2]at hcmp;clear ht hT hTc2;obtain⟨k,nm,s,tb,kz⟩:=t;simp only[Tm.cells,List.cons_append,List.nil_append]at hcmp hTc ⊢;refine Jw tOk fe250.ok (ZJ _ _ _ _ _) ?_ (by simp only[ZH,Xx];simp[frzG,XA];rfl);repeat' first|refine Ka ?_|fail
 refine Wp.while (fun m tm H => ∃(i : Nat) (base : TM) (out : PV) (lv : List Nat) (nt : Nat), i + m = l.length ∧ ApV true 5 (pwL ((l.take i).foldl (Yz T n) ([], false)).1) out lv nt ∧
   tm=ovr base [(7,out),(0,slV b 5 (pwL l)),(2,.int .i64 n),(4,.ptr 0 4 0 0),(8,.bool ((l.take i).foldl (Yz T n) ([],false)).2),(9,.int .i64 (i:Int))]∧H=⟨[.cells 4 [[.int .i64 k,.str nm,.int .i64 s,slV tb 4 (Za kz)]]],0,lv,nt⟩)
  (fun m tm H hI=>Wp.drop ?_) l.length _ _ ⟨0,_,_,_,_,by omega,.nil _ _ rfl,Ze ⟨rfl,rfl,rfl,rfl,rfl,rfl,trivial⟩,rfl⟩
 obtain⟨i,base,out,lv,nt,hi,hA,rfl,rfl⟩:=hI;have hl1:=hlen0 i;have hl2:(l.take i).length≤l.length:=by rw[List.length_take];omega
 have hBU:Yy 1 (.cells 4 [[.int .i64 k,.str nm,.int .i64 s,slV tb 4 (Za kz)]])=true:=by simp[Yy,ZO,under,Zl]
 by_cases hlt:i<l.length
 ·obtain⟨x,hx⟩:∃x,l[i]? = some x:=⟨l[i],by simp⟩;have hm:x∈l:=List.mem_of_getElem? hx;have hs:=XS (f:=Yz T n) (b:=([],false)) hx;generalize (l.take i).foldl (Yz T n) ([],false)=S at hA hs hl1 ⊢;obtain⟨o,d⟩:=S;have hc:=hcmp x hm;have hxb:=(hl x hm).2;have hlo:o.length≤200000:=by simp only[List.length_nil]at hl1;omega
  obtain⟨L,hL⟩:∃L,L=decide (T.cmp x.1<0):=⟨_,rfl⟩;obtain⟨Z,hZ⟩:∃Z,Z=decide (T.cmp x.1=0):=⟨_,rfl⟩;obtain⟨m',hm'⟩:∃m',m'=if Z=true then x.2+n else x.2:=⟨_,rfl⟩
  obtain⟨M,hM⟩:∃M,M= !decide (m'=0):=⟨_,rfl⟩;rw[Zng T n o d x L Z M m' hL hZ hm' hM]at hs;obtain⟨o1,v1,n1,hap1,hA1⟩:=ZqN hA (T,n) (by show o.length≤1000000;omega);obtain⟨o2,v2,n2,hap2,hA2⟩:=ZqN hA (x.1,m') (by show o.length≤1000000;omega);obtain⟨o3,v3,n3,hap3,hA3⟩:=ZqN hA1 (x.1,m') (by simp;omega);rw[hTc]at hap1;have hbL:=Zu (T.cmp x.1) 0;have hbZ:=Z8 (T.cmp x.1) 0;have hbM:=Q9 m' 0;have hadd:=ZaJ (a:=x.2) (b:=n) (by omega) (by omega);rw[← hL]at hbL;rw[← hZ]at hbZ;rw[← hM]at hbM;have hLZ:¬ (L=true∧Z=true):=fun h=>by rw[hL,hZ]at h;simp only[decide_eq_true_eq]at h;omega
  have hlx:=Zu (i:Int) ((pwL l).length:Int);rw[decide_eq_true (by rw[ZT];omega)]at hlx;clear hM hL;generalize T.cmp x.1=c at hc hbL hbZ hZ;clear hZ;have hj:=Xb hx;obtain⟨⟨k',nm',s',b',kz'⟩,xn⟩:=x;simp only[pwC,Tm.cells,List.cons_append,List.nil_append]at hc hap2 hap3 hj;cases Z
  ·(have hmx : m' = xn := by simpa using hm');subst hmx;cases L<;>cases d<;>cases M;all_goals
    simp only[Bool.not_false,Bool.not_true,Bool.and_true,Bool.and_false,Bool.false_eq_true,if_true,if_false,Bool.or_false,Bool.or_true]at hs
    repeat' first|refine Jk ?_|refine Kw ?_|refine KE ?_|refine Jd (hc _) ?_|refine JI ?_|refine Kb ?_|fail
    first
     | exact DropQ.go [(7, out), (0, slV b 5 (pwL l)), (2, .int .i64 n), (4, .ptr 0 4 0 0), (8, .bool ((l.take (i + 1)).foldl (Yz T n) ([], false)).2), (9, .int .i64 ((i + 1 : Nat) : Int))] ⟨rfl, rfl, rfl, rfl, (by rw[hs]; rfl), Zg (Zd (n := i + 1) (by omega)), trivial⟩
         (by simp[hA.under,Zl,under]) rfl (by simpa using hBU) (LoopI.go (m-1) (by omega) ⟨i+1,_,out,lv,nt,by omega,by rw[hs];exact hA,rfl,rfl⟩)
     | exact DropQ.go [(7, o2), (0, slV b 5 (pwL l)), (2, .int .i64 n), (4, .ptr 0 4 0 0), (8, .bool ((l.take (i + 1)).foldl (Yz T n) ([], false)).2), (9, .int .i64 ((i + 1 : Nat) : Int))] ⟨rfl, rfl, rfl, rfl, (by rw[hs]; rfl), Zg (Zd (n := i + 1) (by omega)), trivial⟩
         (by simp[hA2.under,Zl,under]) rfl (by simpa using hBU) (LoopI.go (m-1) (by omega) ⟨i+1,_,o2,v2,n2,by omega,by rw[hs];exact hA2,rfl,rfl⟩)
     | exact DropQ.go [(7, o1), (0, slV b 5 (pwL l)), (2, .int .i64 n), (4, .ptr 0 4 0 0), (8, .bool ((l.take (i + 1)).foldl (Yz T n) ([], false)).2), (9, .int .i64 ((i + 1 : Nat) : Int))] ⟨rfl, rfl, rfl, rfl, (by rw[hs]; rfl), Zg (Zd (n := i + 1) (by omega)), trivial⟩
         (by simp[hA1.under,Zl,under]) rfl (by simpa using hBU) (LoopI.go (m-1) (by omega) ⟨i+1,_,o1,v1,n1,by omega,by rw[hs];exact hA1,rfl,rfl⟩)
     | exact DropQ.go [(7, o3), (0, slV b 5 (pwL l)), (2, .int .i64 n), (4, .ptr 0 4 0 0), (8, .bool ((l.take (i + 1)).foldl (Yz T n) ([], false)).2), (9, .int .i64 ((i + 1 : Nat) : Int))] ⟨rfl, rfl, rfl, rfl, (by rw[hs]; rfl), Zg (Zd (n := i + 1) (by omega)), trivial⟩
         (by simp[hA3.under,Zl,under]) rfl (by simpa using hBU) (LoopI.go (m-1) (by omega) ⟨i+1,_,o3,v3,n3,by omega,by rw[hs];exact hA3,rfl,rfl⟩)
  ·(have hLf : L = false := by cases L;{rfl};{exact absurd ⟨rfl,rfl⟩ hLZ});subst hLf;(have hmx:m'=xn+n:=by simpa using hm');rw[hmx]at hbM hap2 hap3 hA2 hs;cases d<;>cases M;all_goals
    simp only[Bool.not_false,Bool.not_true,Bool.and_false,Bool.false_eq_true,if_true,if_false,Bool.or_true]at hs
    repeat' first|refine Jk ?_|refine Kw ?_|refine KE ?_|refine Jd (hc _) ?_|refine JI ?_|refine Kb ?_|fail
    first
     | exact DropQ.go [(7, out), (0, slV b 5 (pwL l)), (2, .int .i64 n), (4, .ptr 0 4 0 0), (8, .bool ((l.take (i + 1)).foldl (Yz T n) ([], false)).2), (9, .int .i64 ((i + 1 : Nat) : Int))] ⟨rfl, rfl, rfl, rfl, (by rw[hs]; rfl), Zg (Zd (n := i + 1) (by omega)), trivial⟩
         (by simp[hA.under,Zl,under]) rfl (by simpa using hBU) (LoopI.go (m-1) (by omega) ⟨i+1,_,out,lv,nt,by omega,by rw[hs];exact hA,rfl,rfl⟩)
     | exact DropQ.go [(7, o2), (0, slV b 5 (pwL l)), (2, .int .i64 n), (4, .ptr 0 4 0 0), (8, .bool ((l.take (i + 1)).foldl (Yz T n) ([], false)).2), (9, .int .i64 ((i + 1 : Nat) : Int))] ⟨rfl, rfl, rfl, rfl, (by rw[hs]; rfl), Zg (Zd (n := i + 1) (by omega)), trivial⟩
         (by simp[hA2.under,Zl,under]) rfl (by simpa using hBU) (LoopI.go (m-1) (by omega) ⟨i+1,_,o2,v2,n2,by omega,by rw[hs];exact hA2,rfl,rfl⟩)
 ·have e:i=l.length:=by omega
  subst e;have hlx:=Zu (l.length:Int) ((pwL l).length:Int);rw[decide_eq_false (by rw[ZT];omega)]at hlx;rw[List.take_length]at hA hl1 ⊢;generalize l.foldl (Yz T n) ([],false)=S at hA hl1 ⊢;obtain⟨o,d⟩:=S;have hlo:o.length≤200000:=by simp only[List.length_nil]at hl1;omega
  obtain⟨o1,v1,n1,hap1,hA1⟩:=ZqN hA (T,n) (by show o.length≤1000000;omega);rw[hTc]at hap1;cases d;all_goals
   repeat' first|refine Kw ?_|refine Ko ?_|fail
   all_goals first
    | exact hA1.frz3 _ _
    | exact hA.frz3 _ _
theorem ZlW {l:List Tm} (h:l≠ []) (b:Bool):slV b 4 (Za l)= .sl .none 4 (Za l):=by
 cases l with
 |nil=>exact absurd rfl h
 |cons a r=>obtain⟨k,nm,s,b',kz⟩:=a;exact Zp _ _ _ _
theorem Zpr (hL:L≠ []) (hl:L.length≤1000000) (H:Heap):ZK E0 30 30 (.sl .full 4 []) (.sl .none 4 (Za L)) H=some (.own H.bx.length 4 0 L.length,H.push (.cells 4 (Za L))):=by
 have he:=ZW (s:= .sl .full 4 []) YB (ElV.slV true 4 (Za L)) (Zr _) rfl rfl H;rw[ZlW hL]at he;have hn:=Zb L;cases hE:Za L with
 |nil=>rw[hE]at hn;exact absurd (List.length_eq_zero_iff.1 hn.symm) hL
 |cons y yr=>rw[hE]at hn he;simp only[ZK,he,YD,List.nil_append];rw[if_pos (ZR (by rw[hn];simp;omega) (by decide))];simp only[List.length_nil,Nat.zero_add];rw[hn]
theorem Zor (hL:L≠ []) (hl:L.length≤1000000):CO 32 [.sl .none 4 (Za L)] hNil (.own 0 4 0 L.length) ⟨[.cells 4 (Za L)],0,[],0⟩:=by
 have hap:=Zpr hL hl hNil;refine ZU (own:=fun d=>Nat.beq d 7) tOk fe32.ok ?_;refine Wp.seq ?_;repeat' first|refine Js ?_|refine Ka ?_|fail
 refine ZrR rfl rfl rfl rfl rfl hap ?_;repeat' first|refine Jo ?_|fail
 all_goals exact RetE.ret rfl rfl rfl
theorem Zp9 (hL:L≠ []) (hl:L.length≤1000000) (H:Heap):CO 32 [.sl .none 4 (Za L)] H (.own H.bx.length 4 0 L.length) {H with bx:=H.bx++ [.cells 4 (Za L)]}:=
 (Zor hL hl).slot (L:=[]) (k:=0) (B:= .cells 4 (Za L)) (j:=0) (.inl rfl) (fun g g0 l hS _ x=>ZfS hS rfl x) (.inr ⟨4,Za L,[],rfl,by simp,WC L⟩) (fun g1 g2 v hS hs x=>QH hs.1 hs.2 x)
theorem ZoU:∀H,CO 32 [.nils] H .nils H:=by
 refine Jw tOk fe32.ok rfl ?_;repeat' first|refine Ka ?_|fail
 all_goals rfl
theorem ZnG:∀H,CO 32 [.sl .none 4 []] H (.sl .none 4 []) H:=by
 have hap:ZP E0 30 30 (.sl .full 4 []) (.sl .none 4 []) hNil=some (.sl .full 4 [],hNil):=by have he:=ZW (s:= .sl .full 4 []) YB (ElV.slV false 4 (Za [])) (Zr _) rfl rfl hNil;rw[show slV false 4 (Za [])= .sl .none 4 [] from ZB 4]at he;simp only[ZP,he];rfl
 refine Jw tOk fe32.ok rfl ?_;repeat' first|refine Kw ?_|refine Ka ?_|fail
 all_goals rfl
theorem ZkQ {k:Int} {nm:Bs} {s:Int} {A Bx:Box}:frz3 0 ⟨[A,Bx,.cells 4 (Za L)],0,[],0⟩ (.agg [.int .i64 k,.str nm,.int .i64 s,.own 2 4 0 L.length])=some (.agg [.int .i64 k,.str nm,.int .i64 s,.sl .none 4 (Za L)]):=by
 have h:frzC 0 ⟨[A,Bx,.cells 4 (Za L)],0,[],0⟩ (.own 2 4 0 L.length)=some (.sl .none 4 (Za L)):=by have hn:nth ([A,Bx,.cells 4 (Za L)]:List Box) 2=some (.cells 4 (Za L)):=rfl;simp only[frzC,Nat.not_lt_zero,if_false,hn];rw[if_pos ⟨trivial,by rw[Zb];omega⟩,List.drop_zero, ← Zb L,List.take_length,WC]
 rw[ZbL];simp only[Wr,h];rfl
theorem Zsw (ht:t.Ok):t.size≤100000→∀H,CO 224 [.agg t.cells] H (.agg t.cells) H:=by
 induction ht with
 | @mk k nm s b kz hk hs hn hl hok ih=>
 intro hsz;simp only[Tm.size]at hsz;have hkl:=Yl kz;simp only[Tm.cells];refine Jw tOk fe224.ok (Z7 _ _ _ _ _ _ _) ?_;by_cases hne:kz= []
 ·subst hne;clear ih;have hc1:=ZoU;have hc2:=ZnG;cases b<;>simp only[Za,Zi,ZB];all_goals
   repeat' first|refine Jc (hc1 _) ?_|refine Jc (hc2 _) ?_|refine Jo ?_|fail
   refine Wp.loop ?_
   repeat' first|refine KI ?_|fail
   refine LoopQ.exit ?_
   repeat' first|refine Jo ?_|fail
   all_goals rfl
 ·have hcl:=Zp9 hne (by omega) ⟨[.cells 4 [[.int .i64 k,.str nm,.int .i64 s,.sl .none 4 (Za kz)]],.cells 4 [zcT]],0,[],0⟩;rw[ZlW hne];repeat' first|refine Jc hcl ?_|refine Jo ?_|fail
  refine Wp.while (fun m tm H => ∃(i : Nat) (base : TM), i + m = kz.length ∧
    tm=ovr base [(1,.ptr 0 4 0 0),(2,.ptr 1 4 0 0),(10,.own 2 4 0 kz.length),(11,.int .i64 (kz.length:Int)),(12,.int .i64 (i:Int))]∧H=⟨[.cells 4 [[.int .i64 k,.str nm,.int .i64 s,.own 2 4 0 kz.length]],.cells 4 [zcT],.cells 4 (Za kz)],0,[],0⟩)
   (fun m tm H hI=>Wp.drop ?_) kz.length _ _ ⟨0,_,by omega,Ze ⟨rfl,rfl,rfl,rfl,rfl,trivial⟩,rfl⟩
  obtain⟨i,base,hi,rfl,rfl⟩:=hI;clear hcl;by_cases hlt:i<kz.length
  ·obtain⟨t', ht'⟩ : ∃t', kz[i]? = some t' := ⟨kz[i], by simp⟩;have hm:t'∈kz:=List.mem_of_getElem? ht';have hle:=Z4 hm;have hc:=ih t' hm (by omega);have hlx:=Zu (i:Int) (kz.length:Int);rw[decide_eq_true (by omega)]at hlx;have hia:=ZeU (id:=2) (ix:=0) hlt;(have hld:ZZ E0 39 (.ptr 2 4 (0+i) 0) ⟨[.cells 4 [[.int .i64 k,.str nm,.int .i64 s,.own 2 4 0 kz.length]],.cells 4 [zcT],.cells 4 (Za kz)],0,[],0⟩=some (.agg t'.cells):=by rw[Nat.zero_add];exact Zho rfl ht');have hwr:Heap.wr ⟨[.cells 4 [[.int .i64 k,.str nm,.int .i64 s,.own 2 4 0 kz.length]],.cells 4 [zcT],.cells 4 (Za kz),.cells 4 [t'.cells]],0,[],0⟩ (.ptr 2 4 (0+i) 0) t'.cells=some ⟨[.cells 4 [[.int .i64 k,.str nm,.int .i64 s,.own 2 4 0 kz.length]],.cells 4 [zcT],.cells 4 (Za kz),.cells 4 [t'.cells]],0,[],0⟩:=by
    rw[Nat.zero_add,Zp2 (L:=kz) rfl ht' (Nat.zero_le _)];have e:kz.set i t'=kz:=List.ext_getElem? fun j=>by
     rw[List.getElem?_set];split
     ·rename_i h;subst h;first
       | rw[if_pos hlt,ht']
       | rw[ht']
       | simp[hlt,ht']
     {rfl}
    rw[e];rfl
   (have hBU:Yy 3 (.cells 4 (Za kz))=true:=by have:=Zgg 3 kz 0;simpa using this);obtain⟨k',nm',s',b',kz'⟩:=t';simp only[Tm.cells]at hc hld hwr;clear ih;(repeat' first|refine KG ?_|refine Kf ?_|refine Jo ?_|refine Jd (hc _) ?_|refine JK ?_|refine Ky ?_|fail);refine DropQ.go [(1,.ptr 0 4 0 0),(2,.ptr 1 4 0 0),(10,.own 2 4 0 kz.length),(11,.int .i64 (kz.length:Int)),(12,.int .i64 ((i+1:Nat):Int))] ?_ rfl rfl ?_ ?_;{exact⟨rfl,rfl,rfl,rfl,Zg (Zd (n:=i+1) (by omega)),trivial⟩};{show(Yy 3 _&&(Yy 3 _&&(Yy 3 _&&true)))=true;rw[hBU];rfl};{exact LoopI.go (m-1) (by omega) ⟨i+1,_,by omega,rfl,rfl⟩}
  {(have e:i=kz.length:=by omega);subst e;clear ih;have hlx:=Zu (kz.length:Int) (kz.length:Int);rw[decide_eq_false (by omega)]at hlx;(repeat' first|refine Ki ?_|fail);exact ZkQ}
end Go.Vm.Seat
namespace Go.Vm
variable {l:List Pw} {t:Tm} {B n:Int}
theorem Zb7 (n:Nat):arB Ug n= !decide (n<2):=by simp[arB,Ug,VG,Um]
theorem ZbV (n:Nat):arB VG n=decide (n=1):=by simp[arB,Ug,VG,Um]
theorem Zcn (n:Nat):arB Um n=decide (n=0):=by simp[arB,Ug,VG,Um]
theorem Wn {k:Int} {nm:Bs} (h:ZbO k nm=true):k=3∧(nm=Ug∨nm=VG∨nm=Um):=by simpa[ZbO] using h
theorem Zh5 {l:List Tm} {i:Nat} (h:l[i]? = some t):Ze1 (l.drop i)=(t.ari&&Ze1 (l.drop (i+1))):=by rw[Zw h];rfl
theorem Zb9:∀l:List Tm,Ze1 l=true↔∀x,x∈l→x.ari=true
 | []=>by simp[Ze1]
 |t::r=>by simp[Ze1,Zb9 r]
mutual
def Tm.colFl:Tm→Bool→Bool
 | .mk k nm _ _ kz,b=>if ZbO k nm=true then Qi kz b else true
def Qi:List Tm→Bool→Bool
 | [],b=>b
 |t::r,b=>Qi r (t.colFl b)
end
theorem Zaz:∀{l:List Tm} {i:Nat} {t:Tm} (b:Bool),l[i]? = some t→Qi (l.take (i+1)) b=t.colFl (Qi (l.take i) b)
 | [],i,t,b,h=>by simp at h
 |x::r,0,t,b,h=>by
  have e:x=t:=by simpa using h
  subst e;simp only[List.take_succ_cons,List.take_zero,Qi]
 |x::r,i+1,t,b,h=>by simp only[List.take_succ_cons,Qi];exact Zaz _ (by simpa using h)
theorem Za7:∀{l:List Tm} {i:Nat} {t:Tm} (n:Int) (o:List Pw),l[i]? = some t→UQ (l.take (i+1)) n o=t.colR n (UQ (l.take i) n o)
 | [],i,t,n,o,h=>by simp at h
 |x::r,0,t,n,o,h=>by
  have e:x=t:=by simpa using h
  subst e;simp only[List.take_succ_cons,List.take_zero,UQ]
 |x::r,i+1,t,n,o,h=>by simp only[List.take_succ_cons,UQ];exact Za7 n _ (by simpa using h)
theorem sgn {p:Prop} [Decidable p] (h: -1≤n∧n≤1): -1≤(if p then -n else n)∧(if p then -n else n)≤1:=by split<;>omega
mutual
theorem Zm3:∀(t:Tm) (n:Int) (l l':List Pw) (B:Int),0≤B→(-1≤n∧n≤1)→t.Ok→t.size≤100000→PwB B l→t.col n l=some l'→PwB (B+t.size) l'
 | .mk k nm s b kz,n,l,l',B,hB,hn,ht,hs,hl,h=>by rw[Tm.col]at h;rw[Tm.size]at hs ⊢;split at h;{split at h;{exact(ZiH kz _ l l' B hB (sgn hn) (fun x hx=>ht.kid hx) (by omega) hl h).mono (by omega)};{exact absurd h (by simp)}};{cases h;exact(hl.ins (c:=1) ⟨ht,by rw[Tm.size];exact hs⟩ hn hB (by omega)).mono (by omega)}
theorem ZiH:∀(ts:List Tm) (n:Int) (l l':List Pw) (B:Int),0≤B→(-1≤n∧n≤1)→(∀x,x∈ts→x.Ok)→Zk ts≤100000→PwB B l→colL ts n l=some l'→PwB (B+Zk ts) l'
 | [],n,l,l',B,_,_,_,_,hl,h=>by rw[colL]at h;cases h;rw[Zk];exact hl.mono (by omega)
 |t::r,n,l,l',B,hB,hn,ht,hs,hl,h=>by
  rw[colL]at h;rw[Zk]at hs ⊢;cases e:t.col n l with
  | none=>rw[e]at h;exact absurd h (by simp)
  | some m=>rw[e]at h;have h1:=Zm3 t n l m B hB hn (ht t List.mem_cons_self) (by omega) hl e;exact(ZiH r n m l' (B+t.size) (by omega) hn (fun x hx=>ht x (List.mem_cons_of_mem _ hx)) (by omega) h1 h).mono (by omega)
end
theorem Ze4 {ts:List Tm} (ha:Ze1 ts=true) (hA:VS l) (hn:n=1∨n= -1) (hB:0≤B) (ht:∀x,x∈ts→x.Ok) (hs:Zk ts≤100000) (hl:PwB B l):VS (UQ ts n l)∧PwB (B+Zk ts) (UQ ts n l)∧(UQ ts n l).length≤l.length+Zk ts:=by obtain⟨h1,h2⟩:=(Zaa ts n l hA (by omega)).1 ha;exact⟨h2,ZiH ts n l _ B hB (by omega) ht hs hl h1,Zcy ts n l _ h1⟩
theorem ZgO (ha:t.ari=true) (hA:VS l) (hn:n=1∨n= -1) (hB:0≤B) (ht:t.Ok) (hs:t.size≤100000) (hl:PwB B l):VS (t.colR n l)∧PwB (B+t.size) (t.colR n l)∧(t.colR n l).length≤l.length+t.size:=by obtain⟨h1,h2⟩:=(QR t n l hA (by omega)).1 ha;exact⟨h2,Zm3 t n l _ B hB (by omega) ht hs hl h1,ZeY t n l _ h1⟩
end Go.Vm
namespace Go.Vm.Seat
open Go.Proofs
theorem ZuI {t:Tm} (ht:t.Ok):t.size≤100000→∀H,CO 246 [.agg t.cells] H (.bool t.ari) H:=by
 induction ht with
 | @mk k nm s b kz hk hs hn hl hok ih=>
 intro hsz;simp only[Tm.size]at hsz;have hsp:=ZsC (.mk k nm s b kz);have hkl:=Yl kz;rw[Tm.ari];simp only[Tm.sym,Tm.cells]at hsp ⊢;refine Jw tOk fe246.ok rfl ?_;by_cases he:ZbO k nm=true
 ·rw[if_pos he];rw[he]at hsp;have hlen:=Zb kz;have key:∀w:Bs,nm=w→arB nm kz.length=arB w kz.length:=fun w h=>by rw[h]
  obtain⟨rfl,hnm⟩:=Wn he;by_cases har:arB nm kz.length=true
  ·rw[if_pos har];rcases hnm with rfl|rfl|rfl;all_goals
    simp only[Zb7,ZbV,Zcn,Bool.not_eq_true',decide_eq_false_iff_not,decide_eq_true_eq]at har
    simp only[Ug,VG,Um]at hsp ⊢
    repeat' first|refine Jk ?_|refine Jc (hsp _) ?_|refine Kv ?_|refine Jb ?_ ?_|refine Jo ?_|intro hb
    all_goals try first
     | (exfalso;simp at hb<;>omega)
     | (exfalso;rw[hlen]at hb;revert hb;simp only[bne_iff_ne,ne_eq];omega)
    refine Wp.while (fun m tm H => ∃(i : Nat) (base : TM), i + m = kz.length ∧ Ze1 kz = Ze1 (kz.drop i) ∧
      tm=ovr base [(1,.ptr 0 4 0 0),(3,.int .i64 (kz.length:Int)),(4,.int .i64 (i:Int))]∧H=⟨[.cells 4 [[.int .i64 3,.str _,.int .i64 s,slV b 4 (Za kz)]]],0,[],0⟩)
     (fun m tm H hI=>?_) kz.length _ _ ⟨0,_,by omega,by rw[List.drop_zero],Ze ⟨rfl,Zg (by rw[Zb]),rfl,trivial⟩,rfl⟩
    obtain⟨i,base,hi,hgo,rfl,rfl⟩:=hI
    rw[hgo]
    by_cases hlt:i<kz.length
    · obtain⟨t', ht'⟩ : ∃t', kz[i]? = some t' := ⟨kz[i], by simp⟩
      have hm:t'∈kz:=List.mem_of_getElem? ht'
      have hle:=Z4 hm
      have hc:=ih t' hm (by omega)
      have hd:=Zh5 ht'
      generalize t'.ari=A at hc hd
      obtain⟨k',nm',s',b',kz'⟩:=t'
      have hj:=Zj ht'
      simp only[Tm.cells]at hc
      clear ih
      have hlx:=Zu (i:Int) (kz.length:Int)
      rw[decide_eq_true (by omega)]at hlx
      cases A
      · rw[Bool.false_and]at hd
        repeat' first|refine Jc (hc _) ?_|refine KF ?_|fail
        all_goals first
         | rw[hd]
         | (exfalso;simp at hb;done)
      · rw[Bool.true_and]at hd
        repeat' first|refine Jc (hc _) ?_|refine KF ?_|fail
        all_goals first
         | exact LoopI.go (m-1) (by omega) ⟨i+1,_,by omega,by rw[hd],Ze ⟨rfl,rfl,Zg (Zd (n:=i+1) (by omega)),trivial⟩,rfl⟩
         | (exfalso;simp at hb;done)
    · have e : i = kz.length := by omega
      subst e
      clear ih
      have hlx:=Zu (kz.length:Int) (kz.length:Int)
      rw[decide_eq_false (by omega)]at hlx
      repeat' first|refine Kg ?_|fail
      all_goals first
       | (rw[List.drop_length];rfl)
       | (exfalso;simp at hb;done)
  ·rw[if_neg har];clear ih;rcases hnm with rfl|rfl|rfl;all_goals
    simp only[Zb7,ZbV,Zcn,Bool.not_eq_true',decide_eq_false_iff_not,decide_eq_true_eq]at har
    simp only[Ug,VG,Um]at hsp ⊢
    repeat' first|refine Jk ?_|refine Jc (hsp _) ?_|refine Kv ?_|refine Jb ?_ ?_|refine Jo ?_|intro hb
    all_goals first
     | rfl
     | (exfalso;simp at hb<;>omega)
     | (exfalso;rw[hlen]at hb;revert hb;simp only[bne_eq_false_iff_eq];omega)
 ·rw[if_neg he];rw[Bool.eq_false_iff.2 he]at hsp;clear ih;repeat' first|refine Jc (hsp _) ?_|refine Ka ?_|fail
  all_goals rfl
theorem Zgr {es:Nat} {L:List (List PV)} {out:PV} {lv:List Nat} {nt:Nat} (h:ApV false es L out lv nt):∃tl,out= .sl tl es L:=by
 cases h with
 |nil _ _ h=>cases h
 |full=>exact⟨_,rfl⟩
 |tok=>exact⟨_,rfl⟩
theorem c212 (nm:Bs) {l:List Tm} (hlen:l.length≤10000) (b:Bool):∀H,CO 212 [.str nm,slV b 4 (Za l)] H (.agg (Tm.mk 3 nm 0 false l).cells) H:=by
 have hA0:ApV false 4 [] (.sl .full 4 []) [] 0:= .full [] _ _ rfl rfl;obtain⟨out',lv',nt',hap,hA', -⟩:=hA0.app YB (.slV b 4 (Za l)) (Zr _) (ZR (by simp only[Zb,List.length_nil];omega) (by decide)) (Z0 _);rw[List.nil_append]at hA';have hco:=Zag hA' 3 nm 0;have hfr:=fun m H=>Zig hA' m H 3 nm 0;simp only[Tm.cells];obtain⟨tl,rfl⟩:=Zgr hA';refine Jw tOk fe212.ok (Z7 _ _ _ _ _ _ _) ?_;repeat' first|refine Kw ?_|refine Jo ?_|fail
 exact hfr _ _
theorem Znu (nm:Bs) (x:Tm):∀H,CO 212 [.str nm,.sl .full 4 [x.cells]] H (.agg (Tm.mk 3 nm 0 true [x]).cells) H:=fun H=>by
 have:=c212 nm (l:=[x]) (by simp) true H
 simp only[Tm.cells,Za,Zp]at this ⊢
 exact Z2 this rfl
