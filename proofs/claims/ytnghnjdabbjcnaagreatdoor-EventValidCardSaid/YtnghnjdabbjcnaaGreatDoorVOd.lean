/-
  Normal forms in the second text.
-/
import Derived.Test.YtnghnjdabbjcnaaGreatDoorVOs
import Derived.Test.YtnghnjdabbjcnaaGreatDoorVOc
set_option maxHeartbeats 0
set_option maxRecDepth 100000
namespace Go.Vm
theorem US {t:Tm} (ht:t.Ok) (hs:t.size≤100000):PwB 1000000 (ofG t).1∧(ofG t).1.length≤100000:=by rw[Zb3];exact Uv ht hs
theorem Zg6 {a b:List Pw} (ha:PwB 1000000 a) (hb:PwB 1000000 b):PwB 1000000000 (Ui a b).1∧(Ui a b).1.length≤100000:=by rw[ZfX];exact Zdm ha hb
theorem ZlX (f:Bool) (b:Tm) (p:List Pw):Zap f b p=if p.isEmpty=true then(b,0) else if(Wb f p).2≠0 then(.zero,(Wb f p).2) else(.mk 3 YS 0 f [b,(Wb f p).1],0):=by unfold Zap;rw[ZjP]
theorem ZjM (f:Bool) (b e:Tm):WI f b e=if(ofG e).2≠0 then(.zero,(ofG e).2) else if isA b YS=true then(if(ofG (b.kd 1)).2≠0 then(.zero,(ofG (b.kd 1)).2) else if(Ui (ofG (b.kd 1)).1 (ofG e).1).2≠0 then(.zero,(Ui (ofG (b.kd 1)).1 (ofG e).1).2) else Zap f (b.kd 0) (Ui (ofG (b.kd 1)).1 (ofG e).1).1) else Zap f b (ofG e).1:=rfl
theorem ZpQ (f:Bool) (t:Tm):Zau f t=if(ofG t).2≠0 then(.zero,(ofG t).2) else Wb f (ofG t).1:=by unfold Zau;rw[ZjP]
end Go.Vm
namespace Go.Vm.Seat
variable {a e:Tm}
open Go.Proofs
theorem isP (t:Tm) (w:Bs):∀H,CO 217 [.agg t.cells,.str w] H (.bool (isA t w)) H:=Zj5 t w
theorem Zpn (nm:Bs) (x y:Tm):∀H,CO 228 [.str nm,.sl .full 4 [x.cells,y.cells]] H (.agg [.int .i64 3,.str nm,.int .i64 0,.sl .none 4 [x.cells,y.cells]]) H:=fun H=>by
 have:=ZvZ nm [x,y] true H
 simp only[Tm.cells,Za,Zp]at this ⊢
 exact Z2 this rfl
theorem Zvr (h:(ofG e).2≠0) (he':e.Ok∧e.size≤100000):∀H,CO 209 [.agg a.cells,.agg e.cells] H (.tup [.agg (WI true a e).1.cells,.int .i64 (WI true a e).2]) H:=by
 obtain⟨F,hO⟩:=Zqc he'.1 he'.2;rw[ZjM,if_pos h];generalize (ofG e).2=v at hO h ⊢;have hne:=Y0 h;obtain⟨k1,n1,s1,f1,l1⟩:=a;obtain⟨k2,n2,s2,f2,l2⟩:=e;simp only[Zn,Tm.cells]at hO ⊢;refine Jw tOk fe209.ok (Yi _ _ _) ?_;repeat' first|refine Jc (hO _) ?_|refine Ki ?_|fail
 all_goals rfl
theorem ZuD (h:(ofG e).2=0) (hx:isA a YS=false) (he':e.Ok∧e.size≤100000):∀H,CO 209 [.agg a.cells,.agg e.cells] H (.tup [.agg (WI true a e).1.cells,.int .i64 (WI true a e).2]) H:=by
 obtain⟨F,hO⟩:=Zqc he'.1 he'.2;obtain⟨hA,hB⟩:=US he'.1 he'.2;have hT:=Zrf (hA.mono (by decide)) hB F;have hi:=isP a YS;rw[ZjM,if_neg (by rw[h];simp),if_neg (by rw[hx];simp),ZlX];rw[h]at hO;rw[hx]at hi;clear h hx hA hB;generalize (ofG e).1=P at hO hT ⊢;have hl0:=Z8 ((pwL P).length:Int) 0;have hfa:=fun m H=>ZM m H a 0;have happ:=Zpn YS a (Wb true P).1;have hfx:=fun m H=>ZM m H (.mk 3 YS 0 true [a,(Wb true P).1]) 0;generalize (Wb true P).2=v at hT ⊢;generalize (Wb true P).1=U at hT happ hfx ⊢;have hemp:=QJ P;rw[hemp];generalize decide (((pwL P).length:Int)=0)=Z at hl0 ⊢;clear hemp;obtain⟨k1,n1,s1,f1,l1⟩:=a;obtain⟨k2,n2,s2,f2,l2⟩:=e;cases Z;rotate_left
 ·rw[if_pos rfl];simp only[Tm.cells,YS]at hO hi hfa ⊢;refine Jw tOk fe209.ok (hfa _ _) ?_;repeat' first|refine Jc (hO _) ?_|refine Jc (hi _) ?_|refine Ko ?_|fail
  all_goals exact hfa _ _
 {rw[if_neg (by decide)];by_cases hv:v≠0;{rw[if_pos hv];have hne:=Y0 hv;obtain⟨k3,n3,s3,f3,l3⟩:=U;simp only[Tm.cells,YS,Zn]at hO hi hT ⊢;refine Jw tOk fe209.ok (Yi _ _ _) ?_;(repeat' first|(apply qCl;rfl;rfl;rfl;rfl;first|exact hO _|exact hi _|exact hT _)|refine Ko ?_|fail);all_goals rfl};{have hv:=Classical.not_not.1 hv;subst hv;rw[if_neg (by simp)];obtain⟨k3,n3,s3,f3,l3⟩:=U;simp only[Tm.cells,YS,Za,Zp]at hO hi hT happ hfx ⊢;refine Jw tOk fe209.ok (hfx _ _) ?_;(repeat' first|(apply qCl;rfl;rfl;rfl;rfl;first|exact hO _|exact hi _|exact hT _|exact happ _)|refine Js ?_|refine Ko ?_|fail);all_goals exact hfx _ _}}
theorem Zvi {x y:Tm} {b:Bool} (h:(ofG e).2=0) (hy:y.Ok∧y.size≤100000) (he':e.Ok∧e.size≤100000):∀H,CO 209 [.agg (Tm.mk 3 YS 0 b [x,y]).cells,.agg e.cells] H (.tup [.agg (WI true (Tm.mk 3 YS 0 b [x,y]) e).1.cells,.int .i64 (WI true (Tm.mk 3 YS 0 b [x,y]) e).2]) H:=by
 obtain⟨F,hO⟩:=Zqc he'.1 he'.2;obtain⟨hA,hB⟩:=US he'.1 he'.2;obtain⟨F2,hO2⟩:=Zqc hy.1 hy.2;obtain⟨hA2,hB2⟩:=US hy.1 hy.2;obtain⟨F3,hMl⟩:=Zuc (fun x hx=>(hA2 x hx).1) (fun x hx=>(hA x hx).1) hB2 hB F2 F;obtain⟨hA3,hB3⟩:=Zg6 hA2 hA;have hT:=Zrf hA3 hB3 F3;have hi:=isP (.mk 3 YS 0 b [x,y]) YS;rw[ZjM,if_neg (by rw[h];simp),if_pos (show isA (.mk 3 YS 0 b [x,y]) YS=true from rfl)];show ∀H,CO 209 _ H (.tup [.agg (Tm.cells (if(ofG y).2≠0 then(Tm.zero,(ofG y).2) else if(Ui (ofG y).1 (ofG e).1).2≠0 then(Tm.zero,(Ui (ofG y).1 (ofG e).1).2) else Zap true x (Ui (ofG y).1 (ofG e).1).1).1),.int .i64 (if(ofG y).2≠0 then(Tm.zero,(ofG y).2) else if(Ui (ofG y).1 (ofG e).1).2≠0 then(Tm.zero,(Ui (ofG y).1 (ofG e).1).2) else Zap true x (Ui (ofG y).1 (ofG e).1).1).2]) H;rw[h]at hO;have hi:∀H,CO 217 [.agg (Tm.mk 3 YS 0 b [x,y]).cells,.str YS] H (.bool true) H:=hi;clear h hA hB hA2 hB2 hA3 hB3;generalize (ofG y).2=v2 at hO2 ⊢;by_cases hv2:v2≠0
 ·rw[if_pos hv2];have hne:=Y0 hv2;clear hMl hT;obtain⟨k1,n1,s1,f1,l1⟩:=x;obtain⟨k2,n2,s2,f2,l2⟩:=y;obtain⟨k3,n3,s3,f3,l3⟩:=e;simp only[Tm.cells,Vx,YS,Zn]at hO hO2 hi ⊢;refine Jw tOk fe209.ok (Yi _ _ _) ?_;repeat' first|(apply qCl;rfl;rfl;rfl;rfl;first|exact hO _|exact hi _|exact hO2 _)|refine Kg ?_|fail
  all_goals rfl
 rw[if_neg hv2];have hv2:=Classical.not_not.1 hv2;subst hv2;generalize (ofG y).1=P2 at hO2 hMl hT ⊢;generalize (ofG e).1=P1 at hO hMl hT ⊢;generalize (Ui P2 P1).2=v3 at hMl ⊢;generalize (Ui P2 P1).1=P at hMl hT ⊢;by_cases hv3:v3≠0
 ·rw[if_pos hv3];have hne:=Y0 hv3;clear hT;obtain⟨k1,n1,s1,f1,l1⟩:=x;obtain⟨k2,n2,s2,f2,l2⟩:=y;obtain⟨k3,n3,s3,f3,l3⟩:=e;simp only[Tm.cells,Vx,YS,Zn]at hO hO2 hi ⊢;refine Jw tOk fe209.ok (Yi _ _ _) ?_;repeat' first|(apply qCl;rfl;rfl;rfl;rfl;first|exact hO _|exact hi _|exact hO2 _|exact hMl _)|refine Kg ?_|fail
  all_goals rfl
 rw[if_neg hv3,ZlX];have hv3:=Classical.not_not.1 hv3;subst hv3;have hl0:=Z8 ((pwL P).length:Int) 0;have hfa:=fun m H=>ZM m H x 0;have happ:=Zpn YS x (Wb true P).1;have hfx:=fun m H=>ZM m H (.mk 3 YS 0 true [x,(Wb true P).1]) 0;generalize (Wb true P).2=v at hT ⊢;generalize (Wb true P).1=U at hT happ hfx ⊢;have hemp:=QJ P;rw[hemp];generalize decide (((pwL P).length:Int)=0)=Z at hl0 ⊢;clear hemp;obtain⟨k1,n1,s1,f1,l1⟩:=x;obtain⟨k2,n2,s2,f2,l2⟩:=y;obtain⟨k4,n4,s4,f4,l4⟩:=e;cases Z;rotate_left
 ·rw[if_pos rfl];simp only[Tm.cells,Vx,YS]at hO hO2 hi hfa ⊢;refine Jw tOk fe209.ok (hfa _ _) ?_;repeat' first|(apply qCl;rfl;rfl;rfl;rfl;first|exact hO _|exact hi _|exact hO2 _|exact hMl _)|refine Ko ?_|fail
  all_goals exact hfa _ _
 {rw[if_neg (by decide)];by_cases hv:v≠0;{rw[if_pos hv];have hne:=Y0 hv;obtain⟨k3,n3,s3,f3,l3⟩:=U;simp only[Tm.cells,Vx,YS,Zn]at hO hO2 hi hT ⊢;refine Jw tOk fe209.ok (Yi _ _ _) ?_;(repeat' first|(apply qCl;rfl;rfl;rfl;rfl;first|exact hO _|exact hi _|exact hO2 _|exact hMl _|exact hT _)|refine Ko ?_|fail);all_goals rfl};{have hv:=Classical.not_not.1 hv;subst hv;rw[if_neg (by simp)];obtain⟨k3,n3,s3,f3,l3⟩:=U;simp only[Tm.cells,YS,Za,Zp]at hO hO2 hi hT happ hfx ⊢;refine Jw tOk fe209.ok (hfx _ _) ?_;(repeat' first|(apply qCl;rfl;rfl;rfl;rfl;first|exact hO _|exact hi _|exact hO2 _|exact hMl _|exact hT _|exact happ _)|refine Js ?_|refine Ko ?_|fail);all_goals exact hfx _ _}}
theorem ZuH (ha:a.okA=true) (ha':a.Ok∧a.size≤100000) (he':e.Ok∧e.size≤100000):∀H,CO 209 [.agg a.cells,.agg e.cells] H (.tup [.agg (WI true a e).1.cells,.int .i64 (WI true a e).2]) H:=by
 by_cases h:(ofG e).2=0
 ·cases hx:isA a YS with
  | false=>exact ZuD h hx he'
  | true=>obtain⟨b,x,y,rfl⟩:=Xe ha hx rfl;exact Zvi h (VU ha' (x:=y) (by simp)) he'
 {exact Zvr h he'}
end Go.Vm.Seat
namespace Go.Vm
theorem ZeW (c:Bool):∀{l:List Tm},(∀x,x∈l→(x.nrm c).2=0)→nrmL c l=(l.map fun x=>(x.nrm c).1,0)
 | [],_=>rfl
 |t::r,h=>by have ih:=ZeW c (l:=r) fun x hx=>h x (List.mem_cons_of_mem _ hx);rw[nrmL,if_neg (by rw[h t List.mem_cons_self];simp),ih];rfl
theorem ZbD (c:Bool):∀{l:List Tm} {i:Nat} {x:Tm},l[i]? = some x→(∀y,y∈l.take i→(y.nrm c).2=0)→(x.nrm c).2≠0→nrmL c l=([],(x.nrm c).2)
 | [],i,x,h,_,_=>by simp at h
 |t::r,0,x,h,_,he=>by
  have e:t=x:=by simpa using h
  subst e;rw[nrmL,if_pos he]
 |t::r,i+1,x,h,ha,he=>by rw[List.take_succ_cons]at ha;have ih:=ZbD c (l:=r) (i:=i) (by simpa using h) (fun y hy=>ha y (List.mem_cons_of_mem _ hy)) he;rw[nrmL,if_neg (by rw[ha t List.mem_cons_self];simp),ih,if_pos he]
theorem Zeo:∀{l:List Tm},thL l=0→∀x,x∈l→x.th=0
 | [],_,x,hx=>by simp at hx
 |t::r,h,x,hx=>by rw[thL]at h;split at h;{rename_i h1;exact absurd h h1};rename_i h1;rcases List.mem_cons.1 hx with rfl|hx;{exact Classical.not_not.1 h1};{exact Zeo h x hx}
theorem Zdz (c:Bool) {kz:List Tm} (hok:∀x,x∈kz→x.Ok) (hth:∀x,x∈kz→x.th=0) (hA:∀x,x∈kz→x.okA=true) (hs:Zk kz≤400):(∀z,z∈kz.map (fun x=>(x.nrm c).1)→z.okA=true)∧(∀z,z∈kz.map (fun x=>(x.nrm c).1)→z.Ok)∧Zk (kz.map fun x=>(x.nrm c).1)≤201*Zk kz:=by
 refine⟨fun z hz=>?_,fun z hz=>?_,?_⟩;{obtain⟨x,hx,rfl⟩:=List.mem_map.1 hz;have:=Z4 hx;exact cls_okA.nrm x (hth x hx) (by omega) (hA x hx)};{obtain⟨x,hx,rfl⟩:=List.mem_map.1 hz;have:=Z4 hx;exact cls_ok.nrm x (hth x hx) (by omega) (hok x hx)}
 ·clear hs hok hA;induction kz with
  | nil=>simp[Zk]
  | cons a r ih=>have h1:=QE c a (hth a List.mem_cons_self);have h2:=ih fun x hx=>hth x (List.mem_cons_of_mem _ hx);simp only[List.map_cons,Zk];omega
theorem Zgu {l:List Tm} {i:Nat} {x:Tm} (f:Tm→Tm) (h:l[i]? = some x):(l.take (i+1)).map f=(l.take i).map f++ [f x]:=by rw[List.take_add_one,h];simp
end Go.Vm
namespace Go.Vm.Seat
variable {t:Tm}
open Go.Proofs
theorem Vi {a b:Bs} (h:a≠b):XM E0 .eql 9 (.str a) (.str b)=some (.bool false):=by show some (PV.bool (a==b))=_;simp[h]
theorem Zv2 (ht:t.Ok):t.th=0→t.okA=true→t.size≤400→∀H,CO 195 [.agg t.cells] H (.tup [.agg (t.nrm false).1.cells,.int .i64 (t.nrm false).2]) H:=by
 induction ht with
 | @mk k nm s b kz hk hs hn hl hok ih=>
 intro hth hokA hsz;rw[Tm.size]at hsz;by_cases hk3:k=3;rotate_left
 ·rw[Tm.nrm,if_pos hk3];have hnq:=Q9 k 3;rw[decide_eq_false hk3]at hnq;clear ih;simp only[Tm.cells];refine Jw tOk fe195.ok (ZM 0 hNil (.mk k nm s b kz) 0) ?_;repeat' first|refine Ki ?_|fail
  all_goals exact ZM _ _ (.mk k nm s b kz) 0
 ·subst hk3;obtain⟨a0,a1,a2,a3⟩:=Zhl hth;have hkth:=Zeo a3;have hkA:=UE hokA;have hkl:=Yl kz;obtain⟨f1,f2,f3⟩:=Zdz false hok hkth hkA (by omega);obtain⟨N,hN⟩:∃N,N=(Tm.mk 3 nm s b kz).nrm false:=⟨_,rfl⟩;have hNe:∀(i:Nat) (x:Tm),kz[i]? = some x→(∀y,y∈kz.take i→(y.nrm false).2=0)→(x.nrm false).2≠0→N=(.zero,(x.nrm false).2):=fun i x hx hy he=>by rw[hN,Tm.nrm,if_neg (by simp),ZbD false hx hy he,if_pos he]
  have hNo:(∀x,x∈kz→(x.nrm false).2=0)→N=YX false nm (kz.map fun x=>(x.nrm false).1):=fun h=>by rw[hN,Tm.nrm,if_neg (by simp),ZeW false h,if_neg (by simp)]
  rw[← hN];clear hN;simp only[Tm.cells];refine Jw tOk fe195.ok (ZM 0 hNil N.1 N.2) ?_;repeat' first|refine Ka ?_|fail
  refine Wp.while (fun m tm H => ∃(i : Nat) (base : TM) (out : PV) (lv : List Nat) (nt : Nat), i + m = kz.length ∧ (∀y, y ∈ kz.take i → (y.nrm false).2 = 0) ∧ ApV true 4 (Za ((kz.take i).map fun x => (x.nrm false).1)) out lv nt ∧
    tm=ovr base [(4,out),(1,.ptr 0 4 0 0),(2,.ptr 1 4 0 0),(5,.int .i64 (i:Int))]∧H=⟨[.cells 4 [[.int .i64 3,.str nm,.int .i64 s,slV b 4 (Za kz)]],.cells 4 [zcT]],0,lv,nt⟩)
   (fun m tm H hI=>Wp.drop ?_) kz.length _ _ ⟨0,_,_,_,_,by omega,fun y hy=>by simp at hy,.nil _ _ rfl,Ze ⟨rfl,rfl,rfl,rfl,trivial⟩,rfl⟩
  obtain⟨i,base,out,lv,nt,hi,hz,hA,rfl,rfl⟩:=hI;by_cases hlt:i<kz.length;{obtain⟨x,hx⟩:∃x,kz[i]? = some x:=⟨kz[i],by simp⟩;have hm:x∈kz:=List.mem_of_getElem? hx;have hle:=Z4 hm;have hc:=ih x hm (hkth x hm) (hkA x hm) (by omega);have hNe:=hNe i x hx hz;have hsn:=Zgu (fun x=>(x.nrm false).1) hx;(have hzs:(x.nrm false).2=0→∀y,y∈kz.take (i+1)→(y.nrm false).2=0:=fun h0 y hy=>by rw[List.take_add_one,hx]at hy;rcases List.mem_append.1 hy with hy|hy;{exact hz y hy};{(have:y=x:=by simpa using hy);rw[this];exact h0});obtain⟨o1,lv1,nt1,hap1,hA1⟩:=Zel hA ((x.nrm false).1) (by simp;omega);rw[← hsn]at hA1;have hlx:=Zu (i:Int) ((Za kz).length:Int);rw[decide_eq_true (by rw[Zb];omega)]at hlx;(have hBU:Yy 2 (.cells 4 [[.int .i64 3,.str nm,.int .i64 s,slV b 4 (Za kz)]])=true:=by simp[Yy,ZO,under,Zl]);clear ih hNo f1 f2 f3;generalize (x.nrm false).2=e at hc hNe hzs;generalize (x.nrm false).1=U at hc hap1;obtain⟨k',nm',s',b',kz'⟩:=x;obtain⟨k2,nm2,s2,b2,kz2⟩:=U;have hj:=Zj hx;simp only[Tm.cells]at hc hap1;by_cases he:e≠0;{rw[hNe he];have hne:=Y0 he;simp only[Zn];(repeat' first|refine Jc (hc _) ?_|refine KK ?_|fail);all_goals rfl};{have he:=Classical.not_not.1 he;subst he;(repeat' first|refine Jc (hc _) ?_|refine Kw ?_|refine KE ?_|fail);refine DropQ.go [(4,o1),(1,.ptr 0 4 0 0),(2,.ptr 1 4 0 0),(5,.int .i64 ((i+1:Nat):Int))] ?_ ?_ rfl ?_ ?_;{exact⟨rfl,rfl,rfl,Zg (Zd (n:=i+1) (by omega)),trivial⟩};{simp[hA1.under,under]};{simpa[Yy,zcT,ZO,under] using hBU};{exact LoopI.go (m-1) (by omega) ⟨i+1,_,o1,lv1,nt1,by omega,hzs rfl,hA1,rfl,rfl⟩}}}
  ·(have e:i=kz.length:=by omega);subst e;rw[List.take_length]at hA hz;clear ih hNe hokA;have hNo:=hNo hz;have hlx:=Zu (kz.length:Int) ((Za kz).length:Int);rw[decide_eq_false (by rw[Zb];omega)]at hlx;(have hkn:(kz.map fun x=>(x.nrm false).1).length=kz.length:=by rw[List.length_map]);generalize (kz.map fun x=>(x.nrm false).1)=ks at hA hNo f1 f2 f3 hkn;obtain⟨s1,s2,s3⟩:=QQ a0 a1 a2;have hSm:SmL ks:=fun z hz=>⟨f2 z hz,by have:=Z4 hz;omega⟩;(have hks:ks.length≤8:=by omega);have hApp:∀H,CO 212 [.str nm,out] H (.agg (Tm.mk 3 nm 0 false ks).cells) H:=fun H=>Z2 (c212 nm (l:=ks) (by omega) true H) (by simp only[ZH,hA.frzG];rfl);have hKd:=Zsa nm;have hk3:=Z8 (YQ nm).kind 3;simp only[Tm.cells]at hApp;clear hz hi hlt;by_cases c1:(YQ nm).kind=3;{rw[decide_eq_true c1]at hk3;obtain⟨fd,hD⟩:=c213 (nm:=nm) (ks:=ks) c1 (by omega) (by omega) f1 hSm false;(have e1:YX false nm ks=(Xw (.mk 3 nm 0 false ks),0):=by unfold YX;rw[if_pos c1]);rw[hNo,e1];generalize (YQ nm).kind=kd at hKd hk3;have hfr:=fun m H=>ZM m H (Xw (.mk 3 nm 0 false ks)) 0;generalize Xw (.mk 3 nm 0 false ks)=U at hD hfr;obtain⟨k2,nm2,s2',b2,kz2⟩:=U;simp only[Tm.cells]at hD hfr ⊢;(repeat' first|(apply qCl;rfl;rfl;rfl;rfl;first|exact hApp _|exact hKd _|exact hD _)|refine Kd ?_|refine Jt ?_|refine Jb ?_ ?_|refine Jo ?_|intro hb);all_goals exact hfr _ _}
   ·rw[decide_eq_false c1]at hk3;by_cases c2:nm=ZbZ;{have hS:∀H,CO 214 [out] H (.tup [.agg (sumG false ks).1.cells,.int .i64 (sumG false ks).2]) H:=fun H=>Z2 (ZvH hSm (by omega) true H) (by simp only[ZH,hA.frzG]);(have e1:YX false nm ks=sumG false ks:=by unfold YX;rw[if_neg c1,if_pos c2]);rw[hNo,e1];generalize (YQ nm).kind=kd at hKd hk3;have hfr:=fun m H=>ZM m H (sumG false ks).1 (sumG false ks).2;generalize (sumG false ks).2=e at hS hfr;generalize (sumG false ks).1=U at hS hfr;obtain⟨k2,nm2,s2',b2,kz2⟩:=U;subst c2;simp only[Tm.cells,ZbZ]at hS hfr hApp hKd ⊢;(repeat' first|(apply qCl;rfl;rfl;rfl;rfl;first|exact hApp _|exact hKd _|exact hS _)|refine Ko ?_|fail);all_goals exact hfr _ _}
    ·by_cases c3:ZbO 3 nm=true
     ·have hP := Zv1 (t := .mk 3 nm 0 false ks) (cls_ok.app s1 (by omega) (by rw[hkn]; exact s3) f2) (by rw[Tm.size]; omega);(have e1:YX false nm ks=Zau false (.mk 3 nm 0 false ks):=by unfold YX;rw[if_neg c1,if_neg c2,if_pos c3]);rw[hNo,e1];generalize (YQ nm).kind=kd at hKd hk3;have hfr:=fun m H=>ZM m H (Zau false (.mk 3 nm 0 false ks)).1 (Zau false (.mk 3 nm 0 false ks)).2;generalize (Zau false (.mk 3 nm 0 false ks)).2=e at hP hfr;generalize (Zau false (.mk 3 nm 0 false ks)).1=U at hP hfr;obtain⟨k2,nm2,s2',b2,kz2⟩:=U;rcases(Wn c3).2 with rfl|rfl|rfl;all_goals
       simp only[Tm.cells,Ug,VG,Um]at hP hfr hApp hKd ⊢
       repeat' first|refine Jk ?_|(apply qCl;rfl;rfl;rfl;rfl;first|exact hApp _|exact hKd _|exact hP _)|refine Ko ?_|fail
       all_goals exact hfr _ _
     {by_cases c4:nm=YS;{subst c4;(have hn2:ks.length=2:=by rw[hkn];have b1:(YQ YS).least=2:=rfl;have b2:(YQ YS).most=2:=rfl;omega);obtain⟨a,e,rfl⟩:=ZqQ hn2;have hP:=Zu5 (f1 a (by simp)) (hSm a (by simp)) (hSm e (by simp));(have e1:YX false YS [a,e]=WI false a e:=by unfold YX;rw[if_neg c1,if_neg c2,if_neg c3,if_pos rfl];rfl);rw[hNo,e1];generalize (YQ YS).kind=kd at hKd hk3;have hfr:=fun m H=>ZM m H (WI false a e).1 (WI false a e).2;generalize (WI false a e).2=e' at hP hfr;generalize (WI false a e).1=U at hP hfr;obtain⟨kt,rfl⟩:=Zcc hA (by simp[Za]);obtain⟨k2,nm2,s2',b2,kz2⟩:=U;obtain⟨k3,nm3,s3',b3,kz3⟩:=a;obtain⟨k4,nm4,s4',b4,kz4⟩:=e;simp only[Tm.cells,YS,Za]at hP hfr hApp hKd ⊢;(repeat' first|refine Jc (hApp _) ?_|refine Jc (hKd _) ?_|refine Ko ?_|refine Jd (hP _) ?_|refine Ky ?_|fail);all_goals exact hfr _ _};{(have e1:YX false nm ks=(.mk 3 nm 0 false ks,0):=by unfold YX;rw[if_neg c1,if_neg c2,if_neg c3,if_neg c4]);rw[hNo,e1];generalize (YQ nm).kind=kd at hKd hk3;have d1:=Vi c2;have d2:=Vi c4;(have c3:¬ nm=Ug∧¬ nm=VG∧¬ nm=Um:=by simpa[ZbO] using c3);have d3:=Vi c3.1;have d4:=Vi c3.2.1;have d5:=Vi c3.2.2;have hfr:=fun m H=>ZM m H (.mk 3 nm 0 false ks) 0;simp only[Tm.cells,ZbZ,Ug,VG,Um,YS]at hfr d1 d2 d3 d4 d5 ⊢;(repeat' first|refine Jc (hApp _) ?_|refine Jc (hKd _) ?_|refine Ko ?_|fail);all_goals exact hfr _ _}}
theorem Zfp (h:t.valid=0):t.nodes=0:=by unfold Tm.valid at h;split at h;{rename_i h1;exact absurd h h1};{rename_i h1;exact Classical.not_not.1 h1}
theorem c168 (ht:t.Ok) (hs:t.size≤100000):∀H,CO 168 [.agg t.cells] H (.tup [.agg (t.nf false).1.cells,.int .i64 (t.nf false).2]) H:=by
 have hV:=ZtA ht (by omega);by_cases h1:(if t.valid≠0 then t.valid else t.th)≠0
 ·have e:t.nf false=(.zero,if t.valid≠0 then t.valid else t.th):=by unfold Tm.nf;split;{rfl};{rename_i h2;rw[if_neg h2]at h1;rw[if_pos h1]}
  rw[e];generalize (if t.valid≠0 then t.valid else t.th)=v at hV h1 ⊢;have hne:=Y0 h1;obtain⟨k,nm,s,b,kz⟩:=t;simp only[Tm.cells,Zn]at hV ⊢;refine Jw tOk fe168.ok (Yi _ _ _) ?_;repeat' first|refine Jc (hV _) ?_|refine Ki ?_|fail
  all_goals rfl
 ·have h1:=Classical.not_not.1 h1;rw[h1]at hV;have hv0:t.valid=0:=by by_cases h:t.valid=0;{exact h};{rw[if_pos h]at h1;exact absurd h1 h}
  have ht0:t.th=0:=by rwa [if_neg (by rw[hv0];simp)]at h1
  have hsz:=YT hv0;have hA:=Zjx t (Zfp hv0) ht0;have hN:=Zv2 ht ht0 hA hsz;have hsN:=QE false t ht0;have hVN:=c97 (t:=(t.nrm false).1) (cls_ok.nrm t ht0 (by omega) ht) (by omega);have e:t.nf false=if(t.nrm false).2≠0 then(.zero,(t.nrm false).2) else if(t.nrm false).1.valid≠0 then(.zero,(t.nrm false).1.valid) else((t.nrm false).1,0):=by unfold Tm.nf;rw[if_neg (by rw[hv0];simp),if_neg (by rw[ht0];simp)]
  rw[e];clear e hsN hA hv0 ht0 h1;generalize (t.nrm false).1.valid=v2 at hVN ⊢;generalize (t.nrm false).2=v at hN ⊢;generalize (t.nrm false).1=U at hN hVN ⊢;obtain⟨k,nm,s,b,kz⟩:=t;by_cases h2:v≠0;{rw[if_pos h2];have hne:=Y0 h2;obtain⟨k2,nm2,s2,b2,kz2⟩:=U;simp only[Tm.cells,Zn]at hV hN ⊢;refine Jw tOk fe168.ok (Yi _ _ _) ?_;(repeat' first|refine Jc (hV _) ?_|refine Jc (hN _) ?_|refine Kg ?_|fail);all_goals rfl};{rw[if_neg h2];have h2:=Classical.not_not.1 h2;subst h2;by_cases h3:v2≠0;{rw[if_pos h3];have hne:=Y0 h3;obtain⟨k2,nm2,s2,b2,kz2⟩:=U;simp only[Tm.cells,Zn]at hV hN hVN ⊢;refine Jw tOk fe168.ok (Yi _ _ _) ?_;(repeat' first|(apply qCl;rfl;rfl;rfl;rfl;first|exact hV _|exact hN _|exact hVN _)|refine Kg ?_|fail);all_goals rfl};{rw[if_neg h3];have h3:=Classical.not_not.1 h3;subst h3;have hfr:=fun m H=>ZM m H U 0;obtain⟨k2,nm2,s2,b2,kz2⟩:=U;simp only[Tm.cells]at hV hN hVN hfr ⊢;refine Jw tOk fe168.ok (hfr _ _) ?_;(repeat' first|(apply qCl;rfl;rfl;rfl;rfl;first|exact hV _|exact hN _|exact hVN _)|refine Ka ?_|fail);all_goals exact hfr _ _}}
theorem Zpj {v:Int} (h:v≠0):XM E0 .eql 25 (.int .i64 v) (.int .i64 0)=some (.bool false):=by show some (PV.bool (v==0))=_;simp[h]
theorem Zls {L:List (List PV)} {out:PV} {lv:List Nat} {nt:Nat} (hA:ApV true 4 L out lv nt):out= .nils∨∃k,out= .sl (.tok k) 4 L:=by
 cases hA with
 |nil _ _ _=>exact .inl rfl
 |full _ _ _ h _=>cases h
 |tok _ k _ _ _ _ _ _=>exact .inr ⟨k,rfl⟩
