/-
  What is sent in a trace, the moments of a session, those of some kinds: both tex
-/
import Derived.Test.YtnghnjdabbjcnaaGreatDoorVOj
import Derived.Lib.SliceRun
import Derived.Deep.RegionLaw
set_option maxHeartbeats 0
set_option maxRecDepth 100000
namespace Go.Vm.Seat
variable {i n:Nat} {t:Tm} {a b:Int} {l l':List Tm}
open Go.Proofs Go.RowKit Go.Lib
theorem ZaL {P:Program} (w:World) (t e ty:TypeId) (z:Value) (ht:P.underlying t=some (.slice e)) (hv:∀w,(zeroValue e).run P w= .ok z w) (b o n c:Nat) (hn:0<n) (zs:List Value) (hz:(Builtin.zeroCells z.cells n).toList=zs) (h1:∀v∈zs,v.oneCell'=true) (hc:∀j,j<zs.length→(w.cell? ⟨b,o+j,none⟩).isSome=true) (hf:∀j,j<zs.length→w.frozen? ⟨b,o+j,none⟩=false):(Builtin.clear_ #[t] ty #[.slice (some ⟨b,o,none⟩) n c]).run P w= .ok (.tuple #[]) (w.setCells b o zs):=by have hst:=run_storeCells_cells (P:=P) b o zs 0 w (by simpa using hc) (by simpa using hf) h1;simp only[Nat.add_zero]at hst;obtain⟨m,rfl⟩:∃m,n=m+1:=⟨n-1,by omega⟩;simp[Builtin.clear_,run_underlying ht,hv,hz,hst]
theorem ZoW (b c n i : Nat) (cs : List Value) (w : World) (hi : i < n) (hn : n ≤ 1000) (hnc : n ≤ c) (hc63 : c ≤ 9223372036854775807) (hcl : cs.length = n * 5)
  (hcs:∀j v,cs[j]? = some v→w.cell? ⟨b,0+j,none⟩=some v) (hfz:∀j,j<n*5→w.frozen? ⟨b,0+j,none⟩=false) (h1c:∀v∈cs,v.oneCell'=true) :
  Calls Tryz.prog 255 #[.slice (some ⟨b,0,none⟩) n c,.int .i64 (i:Int),.int .i64 ((i+1:Nat):Int)] w fun e w'=>
   e= .returned (.slice (some ⟨b,0,none⟩) (n-1) c)∧∃zs:List Value,zs.length=5∧w'=(w.drew.setCells b (i*5) (cs.drop ((i+1)*5))).setCells b ((n-1)*5) zs:=by
 have mixed:=follows
 have hsz:(Tryz.prog.info? 227).map (fun i=>(i.size,(i.zero.map (fun z=>((Builtin.zeroCells z.cells 1).toList.length,(Builtin.zeroCells z.cells 1).toList.all (·.oneCell'))))))=some (5,some (5,true)):=by kernel_rfl
 obtain⟨i0,hi0⟩:∃i,Tryz.prog.info? 227=some i:=by
  cases hq:Tryz.prog.info? 227 with
  | none=>simp[hq]at hsz
  | some i=>exact⟨i,rfl⟩
 simp only[hi0,Option.map_some,Option.some.injEq,Prod.mk.injEq]at hsz
 obtain⟨hzs,hz0⟩:=hsz
 obtain⟨z,hz0,hz1⟩:=Option.map_eq_some_iff.1 hz0
 simp only[Prod.mk.injEq]at hz1
 obtain⟨zs,hzz⟩:∃zs,(Builtin.zeroCells z.cells 1).toList=zs:=⟨_,rfl⟩
 rw[hzz]at hz1
 obtain⟨hz5,hz6⟩:=hz1
 obtain⟨news,hnews⟩:∃news,news=cs.drop ((i+1)*5):=⟨_,rfl⟩
 have hnl:news.length=(n-(i+1))*5:=by rw[hnews,List.length_drop,hcl, ← Nat.sub_mul]
 have hlen:Hid (news.length=(n-(i+1))*5):=hnl
 have hw1:IntKind.i64.wrap ((i:Int)+1)=(i:Int)+1:=by rw[IntKind.wrap_i64];omega
 have hic:i≤c:=by omega
 have hjc:i+1≤c:=by omega
 obtain⟨A,hA,hsrc⟩:∃A:Addr,(if c=i+1 then some (⟨b,0,none⟩:Addr) else some ⟨b,(i+1)*5,none⟩)=some A∧Hid (∀t u,news[t]? = some u→w.drew.cell? (A.add t)=some u):=by
  by_cases h:c=i+1
  · refine⟨⟨b, 0, none⟩, by simp[h], fun t u hu => ?_⟩
    have h0:news.length=0:=by rw[hnl];omega
    rw[List.length_eq_zero_iff.1 h0]at hu
    simp at hu
  · refine⟨⟨b, (i + 1) * 5, none⟩, by simp[h], fun t u hu => ?_⟩
    rw[hnews,List.getElem?_drop]at hu
    rw[Addr.add_lit]
    have:=hcs _ _ hu
    simpa using this
 have s2:Hid (∀u∈news,u.oneCell'=true):=by
  intro u hu
  rw[hnews]at hu
  exact h1c u (List.mem_of_mem_drop hu)
 have cellS:∀j,j<n*5→(w.cell? ⟨b,j,none⟩).isSome=true:=fun j hj=>by
  have:=hcs j (cs[j]'(by omega)) (List.getElem?_eq_getElem (by omega))
  rw[Nat.zero_add]at this
  rw[this];rfl
 have s3:Hid (∀t,t<news.length→(w.drew.cell? ⟨b,0+i*5+t,none⟩).isSome=true∧w.drew.frozen? ⟨b,0+i*5+t,none⟩=false):=by
  intro t ht
  rw[hnl]at ht
  have hj:i*5+t<n*5:=by omega
  refine⟨?_,?_⟩
  · have := cellS _ hj
    simpa using this
  · have := hfz _ hj
    simpa using this
 obtain⟨W1,hW1⟩:∃W1,W1=w.drew.setCells b (0+i*5) news:=⟨_,rfl⟩
 have W1s:∀j,j<n*5→(W1.cell? ⟨b,j,none⟩).isSome=true:=fun j hj=>by
  rw[hW1]
  exact isSome_setCells b news (0+i*5) w.drew (fun t ht=>by rw[hnl]at ht;exact cellS _ (by omega)) j (cellS j hj)
 have W1f:∀j,j<n*5→W1.frozen? ⟨b,j,none⟩=false:=fun j hj=>by
  rw[hW1,World.frozen?_setCells]
  have:=hfz j hj
  simpa using this
 have hcl':∀ty,(Builtin.clear_ #[207] ty #[.slice (some ⟨b,(i+(n-(i+1)))*5,none⟩) (n-(i+(n-(i+1)))) (c-(i+(n-(i+1))))]).run Tryz.prog W1= .ok (.tuple #[]) (W1.setCells b ((i+(n-(i+1)))*5) zs):=fun ty=>by
  have e1:n-(i+(n-(i+1)))=1:=by omega
  rw[e1]
  exact ZaL W1 _ _ ty z Tryz.underlying207 (XD hi0 hz0) b _ 1 _ (by omega) zs hzz (fun v hv=>by
   have:=List.all_eq_true.1 hz6 v hv
   exact this) (fun j hj=>W1s _ (by omega)) (fun j hj=>W1f _ (by omega))
 have hW:Hid (W1=w.drew.setCells b (0+i*5) news):=hW1
 have hres:Hid (news=cs.drop ((i+1)*5)):=hnews
 have hz62:∀w,(Go.sizeOf 227).run Tryz.prog w= .ok 5 w:=fun w=>by simp[sizeOf,typeInfo,hi0,hzs]
 have hne:¬ ((i:Int)=(i:Int)+1):=by omega
 have hb1:(0:Int)≤(i:Int)+1:=by omega
 have htn:((i:Int)+1).toNat=i+1:=by omega
 have hb3:(i:Int)≤(i:Int)+1:=by omega
 have hb4:(i:Int)+1≤(n:Int):=by omega
 have hb5:(n:Int)≤(c:Int):=by omega
 clear hW1 hnews hnl W1s W1f cellS hcs hfz h1c
 rw[show((i+1:Nat):Int)=(i:Int)+1 by omega]
 go_enter Tryz.func255,Tryz.ntmps255
 go_wp2_with fail
 go_region_law_o (refine step_append_room rfl (.tmp 22) (.tmp 25) 207 rfl 227 i0 5 Tryz.underlying207 hi0 hzs b 0 i c (by simp[Act.eval,Act.put]) A (n-(i+1)) (c-(i+1)) news (by simp[Act.eval,Act.put]) hlen.out hsrc.out s2.out (by omega) s3.out ?_;rw[← hW.out])
 go_wp2
 go_ret
 have e1:i+(n-(i+1))=n-1:=by omega
 rw[e1,hW.out,Nat.zero_add,hres.out]
 first|exact⟨rfl,zs,hz5,rfl⟩|exact⟨zs,hz5,rfl⟩|(refine⟨rfl,zs,hz5,?_⟩;rfl)
theorem ZmH {H:Heap} {id:Nat} {el:List (List PV)} (hb1:H.bx[id]? = some (.cells 5 el)) (hro:H.ro≤id) (hn:el.length=n) (hin:i<n) (hn2:n≤1000) (hc:el.all (fun x=>x.all ZL)=true):CO 255 [.own id 5 0 n,.int .i64 (i:Int),.int .i64 ((i+1:Nat):Int)] H (.own id 5 0 (n-1)) {H with bx:=H.bx.set id (.cells 5 (el.take i++el.drop (i+1)))}:=by
 intro g w vals hi hg hv;obtain⟨l,hv⟩:=hv;obtain⟨v0,v1,v2,hvals⟩:=Zpx (show vals.toList.length=3 by simpa using l);rw[hvals]at hv;have a0:=hv 0 (by simp) (by simp);have a1:=hv 1 (by simp) (by simp);have a2:=hv 2 (by simp) (by simp);simp only[List.getElem_cons_succ,List.getElem_cons_zero]at a0 a1 a2;obtain rfl:=a1.int_inv;obtain rfl:=a2.int_inv;obtain⟨b,cap,a,hσ,hcap,ha, -,⟨hk1,hk2⟩,rfl⟩:=a0.own_inv2;obtain rfl:=ha (.inl (by omega));obtain rfl:vals= #[.slice (some ⟨b,0*5,none⟩) n cap,.int .i64 (i:Int),.int .i64 ((i+1:Nat):Int)]:=Array.toList_inj.1 (by simpa using hvals);obtain⟨b',c,T,s1,s2,s3,s4,s5,s6⟩:=hi.bx _ _ _ hb1;rw[hσ]at s1;cases s1;have hrm:=hi.rm id b c T _ ⟨_,hb1,trivial⟩ hσ s2;have s4':n*5≤c.size:=by rw[← hn];simpa using s4
 obtain⟨cs,hcs⟩:∃cs,cs=c.toList.take (n*5):=⟨_,rfl⟩;have lcs:cs.length=n*5:=by rw[hcs];simp;omega
 have gcs:∀j,j<n*5→cs[j]? = c[j]? :=fun j hj=>by rw[hcs];simp[hj]
 have kcs:∀j v,cs[j]? = some v→w.cell? ⟨b,0+j,none⟩=some v:=fun j v e=>by
  have hj:j<n*5:=by have:=Zz e;omega
  rw[gcs j hj]at e;simpa[World.cell?,s2] using e
 have ocs:∀v∈cs,v.oneCell'=true:=by rw[hcs];exact Qg s3 s5 hc (by rw[hn])
 have fr0:∀o,w.frozen? ⟨b,o,none⟩=false:=fun o=>by simp[World.frozen?,s2]
 have hf:FnOk Tryz.prog 255 fe255.fn fe255.c:=fe255.ok;rw[Zv hf];simp only[UponCall];refine Calls.mono (ZoW b cap n i cs w hin hn2 hcap (by omega) lcs kcs (fun j _=>fr0 _) ocs) fun e w' ⟨he,zs,hz5,hw'⟩=>?_;subst he;have ldr:(cs.drop ((i+1)*5)).length=(n-(i+1))*5:=by rw[List.length_drop,lcs, ← Nat.sub_mul]
 obtain⟨c3,r1,r2,r3,r4,r5,r6,r7,r8⟩:=Y5 (w:=w.drew) (b:=b) s2 (cs.drop ((i+1)*5)) (i*5) (by omega);obtain⟨c4,z1,z2,z3,z4,z5,z6,z7,z8⟩:=Y5 (w:=w.drew.setCells b (i*5) (cs.drop ((i+1)*5))) (b:=b) r1 zs ((n-1)*5) (by omega);rw[← hw']at z1 z5 z6 z7 z8;obtain⟨q1,q2⟩:=Yw b zs ((n-1)*5) (w.drew.setCells b (i*5) (cs.drop ((i+1)*5)));obtain⟨q3,q4⟩:=Yw b (cs.drop ((i+1)*5)) (i*5) w.drew;rw[← hw',q3]at q1;rw[← hw',q4]at q2;have hso:SameOut g w w':=⟨z7.1.trans r7.1,z7.2.trans r7.2,q1,fun _=>by rw[q2];exact Nat.le_succ _⟩;have hel:(el.take i++el.drop (i+1)).length=n-1:=by simp only[List.length_append,List.length_take,List.length_drop];omega
 have hget:∀k (hk:k<(el.take i++el.drop (i+1)).length),(k<i∧∃h:k<el.length,(el.take i++el.drop (i+1))[k]=el[k])∨(i≤k∧∃h:k+1<el.length,(el.take i++el.drop (i+1))[k]=el[k+1]):=fun k hk=>by by_cases hki:k<i;{refine .inl ⟨hki,by omega,?_⟩;rw[List.getElem_append_left (by simp;omega)];simp};{refine .inr ⟨by omega,by omega,?_⟩;rw[List.getElem_append_right (by simp;omega)];simp only[List.getElem_drop,List.length_take];congr 1;omega}
 obtain⟨j1,j2⟩:=Uc (w':=w') hi hro hb1 trivial hσ s6 (fun k hk=>(z5 k hk).trans (r5 k hk)) (z6.trans r6) z1 (fun a=>(z8 a).trans (r8 a)) (bo:= .cells 5 (el.take i++el.drop (i+1)))
  (fun es el' h => by
    cases h
    refine⟨c4,T,rfl,fun k hk=>?_,by omega,fun k hk j hj=>?_⟩
    · rcases hget k hk with⟨_, h, e⟩ | ⟨_, h, e⟩
      · rw[e];exact s3 _ h
      · rw[e];exact s3 _ h
    · rcases hget k hk with⟨hki, h, e⟩ | ⟨hki, h, e⟩
      · simp only[e]at hj ⊢
        have hj5:j<5:=by rw[s3 _ h]at hj;exact hj
        obtain⟨v,e1,e2⟩:=s5 k h j hj
        refine⟨v,?_,e2⟩
        rw[z4 _ (.inl (by omega)),r4 _ (.inl (by omega))]
        exact e1
      · simp only[e]at hj ⊢
        have hj5:j<5:=by rw[s3 _ h]at hj;exact hj
        obtain⟨v,e1,e2⟩:=s5 (k+1) h j hj
        refine⟨v,?_,e2⟩
        rw[z4 _ (.inl (by omega))]
        have q:k*5+j=i*5+((k-i)*5+j):=by omega
        rw[q,r3 _ (by omega), ← List.getElem?_eq_getElem,List.getElem?_drop,show(i+1)*5+((k-i)*5+j)=(k+1)*5+j by omega,gcs _ (by omega)]
        exact e1)
  (fun es h => by cases h) (fun c1 T1 m1 h => by
    cases h
    omega) hso
 exact⟨_,rfl,g,.own _ _ _ _ b cap _ hσ (by omega) (fun _=>by simp) rfl ⟨hk1,hk2⟩,j1,j2⟩
theorem ZbY (k:Int) (nm:List UInt8) (s:Int) (b:Bool) (kz:List Tm):Vn [.int .i64 k,.str nm,.int .i64 s,slV b 4 (Za kz)]=some [.int .i64 k,.str nm,.int .i64 s,slV b 4 (Za kz)]:=by simp only[Vn,ZX];rfl
theorem d74 (a b:Int):∀H,CallOk E1 Tryz.prog 74 [.int .i64 a,.int .i64 b] H (.int .i64 (WE a b)) H:=by
 refine Jw ZfZ fe74.ok rfl ?_;repeat' first|refine Jt ?_|refine Jb ?_ ?_|refine Jo ?_|intro hb
 all_goals (refine Zg ?_;simp[WE]at *;try omega)
theorem ZqR (a b:Int):∀H,CallOk E1 Tryz.prog 139 [.int .i64 a,.int .i64 b] H (.int .i64 (WE a b)) H:=by
 refine Jw ZfZ fe139.ok rfl ?_;repeat' first|refine Jb ?_ ?_|refine Jo ?_|intro hb
 all_goals (refine Zg ?_;simp[WE]at *;try omega)
theorem ZuP (a b:List UInt8):∀H,CallOk E1 Tryz.prog 153 [.str a,.str b] H (.int .i64 (Qt a b)) H:=fun H=>by
 have:=(ZpJ [.str a,.str b] H _ _ rfl).1
 rwa [WY]at this
theorem Zv5 (a b:List UInt8):∀H,CallOk E1 Tryz.prog 114 [.str a,.str b] H (.int .i64 (Qt a b)) H:=by
 have hc:=ZuP a b;refine Jw ZfZ fe114.ok rfl ?_;repeat' first|refine Jc (hc _) ?_|refine Jo ?_|fail
 all_goals rfl
theorem d76 (a b:List UInt8):∀H,CallOk E1 Tryz.prog 76 [.str a,.str b] H (.int .i64 (Qt a b)) H:=by
 have hc:=Zv5 a b;refine Jw ZfZ fe76.ok rfl ?_;repeat' first|refine Jc (hc _) ?_|refine Jo ?_|fail
 all_goals rfl
theorem Zth (ht:t.Ok):t.size<4611686018427387904→∀H,CallOk E1 Tryz.prog 140 [.agg t.cells] H (.int .i64 (t.size:Int)) H:=by
 induction ht with
 | @mk k nm s b kz hk hs hn hl hok ih=>
 intro hsz;refine Jw ZfZ fe140.ok rfl ?_ (by simp[ZH,frzG,Tm.cells,ZbY]);repeat' first|refine Jo ?_|fail
 refine Wp.while (fun m tm H=>∃i base,i+m=kz.length∧tm=ovr base [(1,.ptr 0 4 0 0),(3,.int .i64 ((1+Zk (kz.take i):Nat):Int)),(4,.int .i64 (i:Int))]∧H=⟨[.cells 4 [[.int .i64 k,.str nm,.int .i64 s,slV b 4 (Za kz)]]],0,[],0⟩)
  (fun m tm H hI=>?_) kz.length _ _ ⟨0,_,by omega,Ze ⟨rfl,rfl,rfl,trivial⟩,rfl⟩
 obtain⟨i,base,hi,rfl,rfl⟩:=hI;simp only[Tm.size]at hsz;unfold maxLen at hl;by_cases hlt:i<kz.length
 ·obtain⟨t',ht'⟩:∃t',kz[i]? = some t':=⟨kz[i],by simp⟩;have hm:t'∈kz:=List.mem_of_getElem? ht';have hle:=XH hm;have hst:=Wo ht';have hsl:=ZA kz (i+1);have hc:=ih t' hm (by omega);obtain⟨k',nm',s',b',kz'⟩:=t';have hj:=Zj ht';repeat' first|refine Jc (hc _) ?_|refine Kx ?_|refine Jb ?_ ?_|refine Jo ?_|intro hb
  {refine LoopI.go (m-1) (by omega) ⟨i+1,_,by omega,Ze ⟨rfl,?_,?_,trivial⟩,rfl⟩;{refine Zg ?_;rw[hst, ← Nat.add_assoc,Int.natCast_add (1+Zk (kz.take i)), ← Int.natCast_add];exact Zd (by omega)};{exact Zg (Zd (n:=i+1) (by omega))}};{exfalso;rw[Zb]at hb;simp at hb<;>omega}
 ·have e:i=kz.length:=by omega
  subst e;repeat' first|refine Jl ?_|refine Jb ?_ ?_|refine Jo ?_|intro hb
  {exfalso;rw[Zb]at hb;simp at hb};{simp[Tm.size]}
theorem d75 (ht:t.Ok):t.size<4611686018427387904→∀H,CallOk E1 Tryz.prog 75 [.agg t.cells] H (.int .i64 (t.size:Int)) H:=by
 induction ht with
 | @mk k nm s b kz hk hs hn hl hok ih=>
 intro hsz;refine Jw ZfZ fe75.ok rfl ?_ (by simp[ZH,frzG,Tm.cells,ZbY]);repeat' first|refine KN ?_|fail
 refine Wp.while (fun m tm H=>∃(i:Nat),∃base,i+m=kz.length∧tm=ovr base [(3,.int .i64 ((1+Zk (kz.take i):Nat):Int)),(7,slV b 4 (Za kz)),(8,.int .i64 (kz.length:Int)),(9,.int .i64 (i:Int))]∧H=⟨[.cells 4 [[.int .i64 k,.str nm,.int .i64 s,slV b 4 (Za kz)]]],0,[],0⟩)
  (fun m tm H hI=>Wp.drop ?_) kz.length _ _ ⟨0,_,by omega,Ze ⟨rfl,rfl,Zg (by rw[Zb]),rfl,trivial⟩,rfl⟩
 obtain⟨i,base,hi,rfl,rfl⟩:=hI;simp only[Tm.size]at hsz;unfold maxLen at hl;by_cases hlt:i<kz.length
 ·obtain⟨t',ht'⟩:∃t',kz[i]? = some t':=⟨kz[i],by simp⟩;have hm:t'∈kz:=List.mem_of_getElem? ht';have hle:=XH hm;have hst:=Wo ht';have hsl:=ZA kz (i+1);have hc:=ih t' hm (by omega);obtain⟨k',nm',s',b',kz'⟩:=t';have hj:=Zj ht';repeat' first|refine Jc (hc _) ?_|refine Jx ?_|refine Jz ?_ ?_|refine Jo ?_|intro hb
  ·refine DropQ.go [(3, .int .i64 ((1 + Zk (kz.take (i + 1)) : Nat) : Int)), (7, slV b 4 (Za kz)), (8, .int .i64 (kz.length : Int)), (9, .int .i64 ((i + 1 : Nat) : Int))] ⟨?_, rfl, rfl, Zg (Zd (n := i + 1) (by omega)), trivial⟩
     (by simp[Zl,under]) rfl (by simp[Yy,ZO,Zl,under]) (LoopI.go (m-1) (by omega) ⟨i+1,_,by omega,rfl,rfl⟩)
   refine Zg ?_;rw[hst, ← Nat.add_assoc,Int.natCast_add (1+Zk (kz.take i)), ← Int.natCast_add];exact Zd (by omega)
  {exfalso;simp at hb<;>omega}
 ·have e:i=kz.length:=by omega
  subst e;repeat' first|refine Jz ?_ ?_|refine Jo ?_|intro hb
  {exfalso;simp at hb};{simp[Tm.size]}
theorem Zff (k:Int) (nm:List UInt8) (s:Int) (b:Bool) (l:List Tm):((Tm.mk k nm s b l).size:Int)=((1+Zk l:Nat):Int):=by simp[Tm.size]
theorem Zqw (h:a≠0):thn a b=a:=if_pos h
theorem WF (h:a=0):thn a b=b:=if_neg (by simpa using h)
theorem ZcO {a b:Tm} (h:l[i]? = some a) (h':l'[i]? = some b):VK (l.drop i) (l'.drop i)=thn (a.cmp b) (VK (l.drop (i+1)) (l'.drop (i+1))):=by rw[Zw h,Zw h'];simp only[VK]
theorem cmpL_end:VK (l.drop l.length) (l'.drop l.length)=0:=by simp[VK]
theorem d92:∀{t u:Tm},t.Ok→u.Ok→t.size<4611686018427387904→u.size<4611686018427387904→∀H,CallOk E1 Tryz.prog 92 [.agg t.cells,.agg u.cells] H (.int .i64 (t.cmp u)) H:=by
 intro t u ht;induction ht generalizing u with
 | @mk k nm s b kz hk hs hn hl hok ih=>
 intro hu hsz hsz2;have hu0:=hu;cases hu with
 | @mk k2 nm2 s2 b2 kz2 hk2 hs2 hn2 hl2 hok2=>
 have hsize:=Zth (Tm.Ok.mk (b:=b) hk hs hn hl hok) hsz;have hsize2:=Zth (Tm.Ok.mk (b:=b2) hk2 hs2 hn2 hl2 hok2) hsz2;rw[Zff]at hsize hsize2;have hc1:=ZqR ((1+Zk kz:Nat):Int) ((1+Zk kz2:Nat):Int);have hc2:=ZqR k k2;have hc4:=ZqR s s2;have hc5:=ZqR (kz.length:Int) (kz2.length:Int);have hcmp:(Tm.mk k nm s b kz).cmp (Tm.mk k2 nm2 s2 b2 kz2)=thn (WE ((1+Zk kz:Nat):Int) ((1+Zk kz2:Nat):Int)) (thn (WE k k2) (thn (Qt nm nm2) (thn (WE s s2) (thn (WE (kz.length:Int) (kz2.length:Int)) (VK kz kz2))))):=by simp only[Tm.cmp]
 rw[hcmp];generalize WE ((1+Zk kz:Nat):Int) ((1+Zk kz2:Nat):Int)=x1 at hc1 ⊢;generalize WE k k2=x2 at hc2 ⊢;generalize WE s s2=x4 at hc4 ⊢;obtain⟨x5,hx5⟩:∃x5,x5=WE (kz.length:Int) (kz2.length:Int):=⟨_,rfl⟩;rw[← hx5]at hc5 ⊢;rw[← Zb kz, ← Zb kz2]at hc5;refine Jw ZfZ fe92.ok rfl ?_ (by simp[ZH,frzG,Tm.cells,ZbY]);repeat' first|(apply qCl;rfl;rfl;rfl;rfl;first|exact hc2 _|exact hc4 _|exact hc5 _)|refine Jl ?_|refine Jb ?_ ?_|refine Jo ?_|(apply dCl;rfl;rfl;rfl;rfl;rfl;first|exact hsize _|exact hsize2 _|exact hc1 _)|refine Jh ?_|(apply Wp.draw ZfZ follows;kernel_rfl)|intro hb
 all_goals first
  | (refine Zg ?_;clear hsize hsize2 hc1 hc2 hc4 hc5 ih hok hok2 hcmp hx5 hu0;simp_all[thn,Qt];done)
  | skip
 have hb5:x5=0:=by simpa using hb
 have h5:kz.length=kz2.length:=by have:=Wj (hx5.symm.trans hb5);omega
 have hx:thn x1 (thn x2 (thn (Qt nm nm2) (thn x4 (thn x5 (VK kz kz2)))))=VK kz kz2:=by clear hsize hsize2 hc1 hc2 hc4 hc5 ih hok hok2 hcmp hx5 hu0;simp_all[thn,Qt]
 rw[hx];clear hsize hsize2 hc1 hc2 hc4 hc5 hcmp hu0;refine Wp.while (fun m tm H=>∃(i:Nat),∃base,i+m=kz.length∧VK kz kz2=VK (kz.drop i) (kz2.drop i)∧tm=ovr base [(2,.ptr 0 4 0 0),(3,.ptr 1 4 0 0),(9,.int .i64 (i:Int))]∧H=⟨[.cells 4 [[.int .i64 k,.str nm,.int .i64 s,slV b 4 (Za kz)]],.cells 4 [[.int .i64 k2,.str nm2,.int .i64 s2,slV b2 4 (Za kz2)]]],0,[],0⟩)
  (fun m tm H hI=>?_) kz.length _ _ ⟨0,_,by omega,by simp,Ze ⟨rfl,rfl,rfl,trivial⟩,rfl⟩
 obtain⟨i,base,hi,hcm,rfl,rfl⟩:=hI;rw[hcm];unfold maxLen at hl;by_cases hlt:i<kz.length
 ·obtain⟨t',ht'⟩:∃t',kz[i]? = some t':=⟨kz[i],by simp⟩;obtain⟨u',hu'⟩:∃u',kz2[i]? = some u':=⟨kz2[i]'(by omega),by simp⟩;have hm:t'∈kz:=List.mem_of_getElem? ht';have hm2:u'∈kz2:=List.mem_of_getElem? hu';simp only[Tm.size]at hsz hsz2;have hle:=XH hm;have hle2:=XH hm2;have hc:=ih t' hm (hok2 u' hm2) (by omega) (by omega);have hdr:=ZcO ht' hu';obtain⟨y,hy⟩:∃y,y=t'.cmp u':=⟨_,rfl⟩;rw[← hy]at hc hdr;rw[hdr];obtain⟨k',nm',s',b',kz'⟩:=t';obtain⟨k2',nm2',s2',b2',kz2'⟩:=u';have hj:=Zj ht';have hj2:=Zj hu';repeat' first|refine Jl ?_|refine Jb ?_ ?_|refine Jo ?_|refine Jd (hc _) ?_|refine JI ?_|refine Jh ?_|(apply Wp.draw ZfZ follows;kernel_rfl)|intro hb
  {refine Zg ?_;rw[Zqw (by simpa using hb)]};{(have hy0:y=0:=by simpa using hb);refine LoopI.go (m-1) (by omega) ⟨i+1,_,by omega,by rw[WF hy0],Ze ⟨rfl,rfl,?_,trivial⟩,rfl⟩;exact Zg (Zd (n:=i+1) (by omega))};all_goals (exfalso;rw[Zb]at hb;simp at hb;omega)
 ·have e:i=kz.length:=by omega
  subst e;repeat' first|refine Jl ?_|refine Jb ?_ ?_|refine Jo ?_|refine Jh ?_|(apply Wp.draw ZfZ follows;kernel_rfl)|intro hb
  {exfalso;rw[Zb]at hb;simp at hb};{exact Zg cmpL_end.symm}
theorem Qh (a b:Int):WE a b=0∨WE a b= -1∨WE a b=1:=by simp only[WE];split;{simp};{split<;>simp}
theorem ZlJ (a b:List UInt8):Qt a b=0∨Qt a b= -1∨Qt a b=1:=by simp only[Qt];split;{simp};{split<;>simp}
theorem ZgE (h:a=0∨a= -1∨a=1) (h':b=0∨b= -1∨b=1):thn a b=0∨thn a b= -1∨thn a b=1:=by unfold thn;split<;>assumption
mutual
theorem ZqC:∀t u:Tm,t.cmp u=0∨t.cmp u= -1∨t.cmp u=1
 | .mk k nm s b l,.mk k' nm' s' b' l'=>by simp only[Tm.cmp];exact ZgE (Qh _ _) (ZgE (Qh _ _) (ZgE (ZlJ _ _) (ZgE (Qh _ _) (ZgE (Qh _ _) (Zmp l l')))))
theorem Zmp:∀l l':List Tm,VK l l'=0∨VK l l'= -1∨VK l l'=1
 | [],_=>by simp[VK]
 |_::_,[]=>by simp[VK]
 |a::r,b::r'=>by simp only[VK];exact ZgE (ZqC a b) (Zmp r r')
end
theorem d35:∀{t u:Tm},t.Ok→u.Ok→t.size<4611686018427387904→u.size<4611686018427387904→∀H,CallOk E1 Tryz.prog 35 [.agg t.cells,.agg u.cells] H (.int .i64 (t.cmp u)) H:=by
 intro t u ht;induction ht generalizing u with
 | @mk k nm s b kz hk hs hn hl hok ih=>
 intro hu hsz hsz2;cases hu with
 | @mk k2 nm2 s2 b2 kz2 hk2 hs2 hn2 hl2 hok2=>
 have hsize:=d75 (Tm.Ok.mk (b:=b) hk hs hn hl hok) hsz;have hsize2:=d75 (Tm.Ok.mk (b:=b2) hk2 hs2 hn2 hl2 hok2) hsz2;rw[Zff]at hsize hsize2;have hc1:=d74 ((1+Zk kz:Nat):Int) ((1+Zk kz2:Nat):Int);have hc2:=d74 k k2;have hc3:=d76 nm nm2;have hc4:=d74 s s2;have hc5:=d74 (kz.length:Int) (kz2.length:Int);have hcmp:(Tm.mk k nm s b kz).cmp (Tm.mk k2 nm2 s2 b2 kz2)=thn (WE ((1+Zk kz:Nat):Int) ((1+Zk kz2:Nat):Int)) (thn (WE k k2) (thn (Qt nm nm2) (thn (WE s s2) (thn (WE (kz.length:Int) (kz2.length:Int)) (VK kz kz2))))):=by simp only[Tm.cmp]
 rw[hcmp];clear hcmp;have v1:=Qh ((1+Zk kz:Nat):Int) ((1+Zk kz2:Nat):Int);have v2:=Qh k k2;have v3:=ZlJ nm nm2;have v4:=Qh s s2;have v5:=Qh (kz.length:Int) (kz2.length:Int);generalize WE ((1+Zk kz:Nat):Int) ((1+Zk kz2:Nat):Int)=x1 at hc1 v1 ⊢;generalize WE k k2=x2 at hc2 v2 ⊢;generalize Qt nm nm2=x3 at hc3 v3 ⊢;generalize WE s s2=x4 at hc4 v4 ⊢;obtain⟨x5,hx5⟩:∃x5,x5=WE (kz.length:Int) (kz2.length:Int):=⟨_,rfl⟩;rw[← hx5]at hc5 v5 ⊢;rw[← Zb kz, ← Zb kz2]at hc5;refine Jw ZfZ fe35.ok rfl ?_ (by simp[ZH,frzG,Tm.cells,ZbY]);obtain⟨G,hG⟩:∃G,G=thn x1 (thn x2 (thn x3 (thn x4 (thn x5 (VK kz kz2))))):=⟨_,rfl⟩;rw[← hG];have hlen:x5=0→kz.length=kz2.length:=fun h=>by have:=Wj (hx5.symm.trans h);omega
 clear hx5;rcases v1 with rfl|rfl|rfl;rcases v2 with rfl|rfl|rfl;rcases v3 with rfl|rfl|rfl;rcases v4 with rfl|rfl|rfl;rcases v5 with rfl|rfl|rfl;all_goals
  repeat' first|(apply qCl;rfl;rfl;rfl;rfl;first|exact hc2 _|exact hc3 _|exact hc4 _|exact hc5 _)|refine KJ ?_|(apply dCl;rfl;rfl;rfl;rfl;rfl;first|exact hsize _|exact hsize2 _|exact hc1 _)|refine Jh ?_|(apply Wp.draw ZfZ follows;kernel_rfl)|fail
  refine Wp.while (fun m tm H=>∃(i:Nat),∃base,∃y:Int,i+m=kz.length∧(y=0∨y= -1∨y=1)∧(y=0→kz.length=kz2.length)∧G=thn y (VK (kz.drop i) (kz2.drop i))∧tm=ovr base [(2,.ptr 0 4 0 0),(3,.ptr 1 4 0 0),(5,.int .i64 y),(6,.int .i64 (i:Int))]∧H=⟨[.cells 4 [[.int .i64 k,.str nm,.int .i64 s,slV b 4 (Za kz)]],.cells 4 [[.int .i64 k2,.str nm2,.int .i64 s2,slV b2 4 (Za kz2)]]],0,[],0⟩)
   (fun m tm H hI=>?_) kz.length _ _ ⟨0,_,_,by omega,by omega,by first|exact hlen|(intro h;simp at h),by simp[hG,thn],Ze ⟨rfl,rfl,rfl,rfl,trivial⟩,rfl⟩
  clear hG hsize hsize2 hc1 hc2 hc3 hc4 hc5 hlen
  obtain⟨i,base,y,hi,hy,hyl,hG,rfl,rfl⟩:=hI
  unfold maxLen at hl
  rcases hy with rfl|hy
  · have h5 := hyl rfl
    rw[WF rfl]at hG
    by_cases hlt:i<kz.length
    · obtain⟨t', ht'⟩ : ∃t', kz[i]? = some t' := ⟨kz[i], by simp⟩
      obtain⟨u',hu'⟩:∃u',kz2[i]? = some u':=⟨kz2[i]'(by omega),by simp⟩
      have hm:t'∈kz:=List.mem_of_getElem? ht'
      have hm2:u'∈kz2:=List.mem_of_getElem? hu'
      simp only[Tm.size]at hsz hsz2
      have hle:=XH hm
      have hle2:=XH hm2
      have hc:=ih t' hm (hok2 u' hm2) (by omega) (by omega)
      have hdr:=ZcO ht' hu'
      have h3:=ZqC t' u'
      obtain⟨z,hz⟩:∃z,z=t'.cmp u':=⟨_,rfl⟩
      rw[← hz]at hc hdr h3
      obtain⟨k',nm',s',b',kz'⟩:=t'
      obtain⟨k2',nm2',s2',b2',kz2'⟩:=u'
      have hj:=Zj ht'
      have hj2:=Zj hu'
      repeat' first|refine Kv ?_|refine Jb ?_ ?_|refine Jo ?_|refine Jd (hc _) ?_|refine JI ?_|refine Jh ?_|(apply Wp.draw ZfZ follows;kernel_rfl)|intro hb
      · refine LoopI.go (m - 1) (by omega) ⟨i + 1, _, z, by omega, h3, fun _ => h5, hG.trans hdr, Ze ⟨rfl, rfl, rfl, ?_, trivial⟩, rfl⟩
        exact Zg (Zd (n:=i+1) (by omega))
      · exfalso;rw[Zb]at hb;simp at hb;omega
    · have e : i = kz.length := by omega
      subst e
      repeat' first|refine Kv ?_|refine Jb ?_ ?_|refine Jo ?_|refine Jh ?_|(apply Wp.draw ZfZ follows;kernel_rfl)|intro hb
      · exfalso;rw[Zb]at hb;simp at hb
      · exact Zg (by rw[hG];exact cmpL_end.symm)
  · rcases hy with rfl | rfl
    ·
      repeat' first|refine Jk ?_|refine Ka ?_|fail
      exact Zg hG.symm
    ·
      repeat' first|refine Jk ?_|refine Ka ?_|fail
      exact Zg hG.symm
theorem ZR {m by_:Nat} (h:n+m≤10000000) (hb:by_≤1000000):VX n m by_=true:=by simp only[VX,Bool.and_eq_true,Nat.ble_eq];have:=Nat.mul_le_mul (show n+m+256≤10000256 by omega) hb;omega
theorem YB:ApT E0 30 30 4 56:=⟨_,_,_,_,_,rfl,rfl,rfl,rfl,rfl,rfl,rfl,by decide,rfl⟩
theorem Zmz:ApT E0 22 22 6 80:=⟨_,_,_,_,_,rfl,rfl,rfl,rfl,rfl,rfl,rfl,by decide,rfl⟩
theorem Z0 (l:List Tm):noB (Za l)=true:=by simp only[Ys,noB,List.all_map,List.all_eq_true];rintro⟨k,nm,s,b,kz⟩ _;rfl
theorem ZhY (l:List Mo):noB (moC l)=true:=by simp only[moC,noB,List.all_map,List.all_eq_true];rintro⟨⟩ _;rfl
theorem ZlQ (l:List Mo):(moC l).all (fun c=>c.all ZL)=true:=by simp only[moC,List.all_map,List.all_eq_true];intro m _;exact m.cells_ok
theorem c8 {l:List Mo} (hl:l.length≤1000) (b:Bool):∀H,CO 8 [slV b 6 (moC l)] H (slV b 6 (moC l)) H:=by
 refine Jw tOk fe8.ok (ZJ _ _ _ _ _) ?_;obtain⟨out',lv',nt',hap,hA, -⟩:=(ApV.full (es:=6) [] [] 0 (rfl:false=false) rfl).app Zmz (.slV b 6 (moC l)) (ZlQ l) (ZR (by simp[Y3];omega) (by decide)) (ZhY l);cases hL:moC l with
 |nil=>
  rw[hL]at hap hA;cases b with
  | true=>rw[Zi]at hap ⊢;(repeat' first|refine Ka ?_|fail);all_goals rfl
  | false=>
   rw[ZB]at hap ⊢;(repeat' first|refine Kw ?_|refine Ka ?_|fail);first
    | exact hA.frz3 _ _
    | exact(hA.frz3 _ _).trans (by rw[List.append_nil,ZB])
 |cons c r=>
  rw[hL,Zp]at hap;rw[hL]at hA;rw[Zp];repeat' first|refine Kw ?_|refine Ka ?_|fail
  rw[← Zp false];exact hA.frz3 _ _
