/-
  Numbers: the second text's Digits and number.
-/
import Derived.Test.YtnghnjdabbjcnaaGreatDoorVYb
import Derived.Lib.ItoaLen
set_option maxHeartbeats 0
set_option maxRecDepth 100000
namespace Go.Vm
variable {S:List UInt8} {d p q:Nat} {cs:List PV}
abbrev zcQ:List PV:=[.int .i64 0,.str [],.int .i64 0,.nils]
def TmQ (S:List UInt8) (d p:Nat) (cs:List PV) (q:Nat):Prop:=match rdF d (S.drop p) with
 |some x=>cs= [.agg x.1.cells,.bool true]∧S.drop q=x.2
 |none=>∃x:Tm,cs= [.agg x.cells,.bool false]
theorem TmQ.no (h:rdF d (S.drop p)=none) (x:Tm) (hc:cs= [.agg x.cells,.bool false]):TmQ S d p cs q:=by rw[TmQ,h];exact⟨x,hc⟩
theorem TmQ.yes {t:Tm} (h:rdF d (S.drop p)=some (t,S.drop q)) (hc:cs= [.agg t.cells,.bool true]):TmQ S d p cs q:=by rw[TmQ,h];exact⟨hc,rfl⟩
def TmO (S:List UInt8) (d p:Nat) (A:Box) (lv:List Nat) (nt:Nat) (r:PV) (H':Heap):Prop:=
 ∃cs cs' q ext lv' nt',r= .tup cs∧H'=⟨A::pB S q::ext,0,lv',nt'⟩∧KeepT lv nt lv' nt'∧ZH cs=some cs'∧under 2 (.tup cs)=true∧q≤S.length∧TmQ S d p cs' q
theorem ZaV {c:UInt8} {w:List UInt8} (h:YR (c::w) (S.drop p)=true):p+w.length+1≤S.length:=by have h1:=Zl0 h;rw[List.length_cons]at h1;by_cases e:p<S.length;{omega};{rw[List.drop_eq_nil_of_le (by omega),Ux]at h;cases h}
abbrev ZaC (S:List UInt8) (p:Nat):Nat:=if YR [63] (S.drop p)=true then p+1 else p
theorem ZqA : rdF (d + 1) (S.drop p) =
  if YA (YW (S.drop (ZaC S p)))=false then none
  else if YR [63] (S.drop p)=true then Vc true (YW (S.drop (ZaC S p))) (S.drop (ZaC S p+(YW (S.drop (ZaC S p))).length))
  else if YR [40] (S.drop (ZaC S p+(YW (S.drop (ZaC S p))).length))=true then
   match Zen (rdF d) (S.drop (ZaC S p+(YW (S.drop (ZaC S p))).length)).length [] (S.drop (ZaC S p+(YW (S.drop (ZaC S p))).length+1)) with
   | none=>none
   | some x=>some (.mk 3 (YW (S.drop (ZaC S p))) 0 true x.1,x.2)
  else Vc false (YW (S.drop (ZaC S p))) (S.drop (ZaC S p+(YW (S.drop (ZaC S p))).length)):=by
 have e:bhV (S.drop p)=S.drop (ZaC S p):=by unfold bhV ZaC;split;{rw[List.drop_drop]};{rfl}
 rw[Zp3,e];simp only[List.drop_drop];rfl
theorem Zf6 (S : List UInt8) (v : Bool) (nm : List UInt8) (p : Nat) : Vc v nm (S.drop p) =
  if YR [58] (S.drop p)=true then
   if(if v=true then 1 else 0)≤ZcB (YW (S.drop (p+1))) then some (.mk (if v=true then 1 else 2) nm (ZcB (YW (S.drop (p+1)))) true [],S.drop (p+1+(YW (S.drop (p+1))).length)) else none
  else if v=true then some (.mk 1 nm 0 true [],S.drop p) else none:=by rw[Vc];simp only[List.drop_drop]
theorem Znw (S : List UInt8) (f : List UInt8 → Option (Tm × List UInt8)) (n : Nat) (acc : List Tm) (p : Nat) : Zen f (n + 1) acc (S.drop p) =
  if YR [41] (S.drop p)=true then some (acc,S.drop (p+1))
  else if acc≠ []∧YR [44,32] (S.drop p)=false then none
  else match f (S.drop (if acc= [] then p else p+2)) with
   | none=>none
   | some x=>Zen f n (acc++ [x.1]) x.2:=by
 rw[Zen];have e:(if acc= [] then S.drop p else(S.drop p).drop 2)=S.drop (if acc= [] then p else p+2):=by split;{rfl};{rw[List.drop_drop]}
 rw[e,List.drop_drop];rfl
end Go.Vm
namespace Go.Vm.Seat
variable {b:Bool} {k:Int} {nm:List UInt8} {l:List Tm} {o:PV} {lv:List Nat} {nt:Nat} {L:List (List PV)}
open Go.Proofs
theorem VA (k:Int) (nm:List UInt8) (so:Int):(Tm.mk k nm so true []).cells= [.int .i64 k,.str nm,.int .i64 so,.nils]:=by simp[Tm.cells,Za,Zi]
def TmC (S:List UInt8) (d p:Nat):Prop:=∀(A:Box) (lv:List Nat) (nt:Nat),Yy 2 A=true→
 ∃cs q lv' nt',CO 90 [.ptr 1 2 0 0] ⟨[A,pB S p],0,lv,nt⟩ (.tup cs) ⟨[A,pB S q],0,lv',nt'⟩∧KeepT lv nt lv' nt'∧q≤S.length∧TmQ S d p cs q
theorem ZpC {S:List UInt8} {d p:Nat} (h:∀(A:Box) (lv:List Nat) (nt:Nat),Yy 2 A=true→∃r H',CO 90 [.ptr 1 2 0 0] ⟨[A,pB S p],0,lv,nt⟩ r H'∧TmO S d p A lv nt r H'):TmC S d p:=fun A lv nt hA=>by
 obtain⟨r,H',hc,cs,cs',q,ext,lv',nt',rfl,rfl,hk,hf,hu,hq,hQ⟩:=h A lv nt hA
 exact⟨cs',q,lv',nt',(hc.shed (by simp) (Nat.zero_le _) hu (by simp[hA,XZ])).resT hf,hk,hq,hQ⟩
theorem U5 {cs:List PV} {x:Tm} (h:cs=x.cells):ZH [.agg cs,.bool b]=some [.agg x.cells,.bool b]:=by
 subst h;have:frzG (.agg x.cells)=some (.agg x.cells):=by obtain⟨k,nm,s,b,kz⟩:=x;simp only[frzG,Vn,Tm.cells,ZX];rfl
 simp only[ZH,this];rfl
theorem Znc (h:ApV true 4 (Za l) o lv nt) (b:Bool):ZH [.agg [.int .i64 k,.str nm,.int .i64 0,o],.bool b]=some [.agg (Tm.mk k nm 0 true l).cells,.bool b]:=by
 have:frzG (.agg [.int .i64 k,.str nm,.int .i64 0,o])=some (.agg (Tm.mk k nm 0 true l).cells):=by simp only[frzG,Vn,h.frz1,Tm.cells];rfl
 simp only[ZH,this];rfl
theorem Znt (h:ApV true 4 (Za l) o lv nt) (b:Bool):under 2 (.tup [.agg [.int .i64 k,.str nm,.int .i64 0,o],.bool b])=true:=by simp[under,ZO,h.under]
theorem ZtP (c:UInt8):XM E0 .eql 5 (.int .u8 (c.toNat:Int)) (.int .u8 58)=some (.bool (decide (c=58))):=by
 show some (PV.bool (decide ((c.toNat:Int)=58)))=_;congr 2;have:(c.toNat:Int)=58↔c=58:=by rw[← UInt8.toNat_inj];show _↔c.toNat=58;omega
 simp only[this]
theorem ZmS (h:ApV b 4 L o lv nt):∀H,Zc0 E0 30 o H=some (.int .i64 (L.length:Int)):=fun H=>by
 have e:E0.T 30=some ⟨.slice 39,1,24,.nils⟩:=by kernel_rfl
 cases h<;>(simp only[Zc0,e];rfl)
theorem Zkf {x:PV} (h:Yc x=none):Yc o=none∨Yc o≠Yc x:=by
 cases h2:Yc o with
 |none=>exact .inl rfl
 |some k=>exact .inr (by rw[h];simp)
theorem Zjj {es:Nat} {out:PV} (h:ApV b es L out lv nt):PV.cells out= [out]∧[out].all ZL=true:=by cases h<;>exact⟨rfl,rfl⟩
theorem Zqb {S:List UInt8} (hS:S.length≤1000000):∀d p,p≤S.length→S.length-p<d→TmC S d p
 |0,p,_,h=>absurd h (by omega)
 | d + 1, p, hp, hd => ZpC fun A lv nt hA => by
   have k1:=(Zjg (w:=[63]) hp hS (by decide) A lv nt).two rfl hA (XZ _ _ _) [.cells 4 [zcQ]]
   have hat:=ZqA (S:=S) (d:=d) (p:=p)
   have hv1:ZaC S p≤S.length:=by
    unfold ZaC
    split
    · rename_i e;have:=ZaV e;simpa using this
    · exact hp
   have hv2:p≤ZaC S p:=by unfold ZaC;split<;>omega
   have k2:=(ZsO hv1 hS A lv nt).two rfl hA (XZ _ _ _) [.cells 4 [zcQ]]
   have e1:(if YR [63] (S.drop p)=true then p+([63]:List UInt8).length else p)=ZaC S p:=rfl
   rw[e1]at k1
   generalize YR [63] (S.drop p)=v at k1 hat
   generalize ZaC S p=p1 at k1 k2 hat hv1 hv2
   have hnl:=UN (S.drop p1)
   rw[List.length_drop]at hnl
   generalize YW (S.drop p1)=nm at k2 hat hnl
   obtain⟨p2,hp2⟩:∃p2,p2=p1+nm.length:=⟨_,rfl⟩
   rw[← hp2]at k2 hat
   have hp2l:p2≤S.length:=by omega
   cases hn:YA nm with
   | false =>
     rw[hn]at k2
     rw[hn,if_pos rfl]at hat
     refine Zt (own:=fun _=>false) tOk fe90.ok ?_
     refine Wp.seq ?_
     cases v
     all_goals
      repeat' first|refine Jc k1 ?_|refine Jc k2 ?_|refine Ka ?_|fail
      exact RetR.ret rfl ⟨_,_,p2,_,lv,nt,rfl,rfl,.refl _ _,U5 (x:= .mk 0 [] 0 true []) (VA _ _ _).symm,rfl,hp2l,.no hat (.mk 0 [] 0 true []) rfl⟩
   | true=>
   rw[hn]at k2
   rw[hn,if_neg (by decide)]at hat
   have hnm:=Zej hn
   cases v with
   | true =>
     rw[if_pos rfl,Zf6]at hat
     have hlx:=Zu (p2:Int) (S.length:Int)
     by_cases h58:YR [58] (S.drop p2)=true
     · have hp3 := ZaV h58
       simp only[List.length_nil]at hp3
       rw[decide_eq_true (by omega)]at hlx
       obtain⟨c,hc⟩:∃c,S[p2]? = some c:=⟨S[p2],by simp⟩
       have hx:=Zmc hc
       have he:=ZtP c
       rw[show decide (c=58)=true by rw[← Vb 58 c (S.drop (p2+1)), ← Zw hc];exact h58]at he
       rw[if_pos h58,if_pos rfl,if_pos rfl]at hat
       have k3:=(Zpi hp2l hS 1 A lv nt).two rfl hA (XZ _ _ _) [.cells 4 [zcQ],.cells 4 [[.int .i64 1,.str nm,.int .i64 0,.nils]]]
       rw[ZqP,ZqO,if_pos h58,if_pos h58]at k3
       have hwl:=UN (S.drop (p2+1))
       rw[List.length_drop]at hwl
       generalize YW (S.drop (p2+1))=w at k3 hat hwl
       have hql:p2+1+w.length≤S.length:=by omega
       generalize p2+1+w.length=q at k3 hat hql
       generalize ZcB w=so at k3 hat
       have hQ:TmQ S (d+1) p [.agg (Tm.mk 1 nm so true []).cells,.bool (decide ((1:Int)≤so))] q:=by
        by_cases h1:(1:Int)≤so
        · rw[if_pos h1]at hat
          exact .yes hat (by rw[decide_eq_true h1])
        · rw[if_neg h1]at hat
          exact .no hat _ (by rw[decide_eq_false h1])
       generalize decide ((1:Int)≤so)=B at k3 hQ
       clear hc hat h58 hp3 hnm hnl hp2 hwl
       refine Zt (own:=fun _=>false) tOk fe90.ok ?_
       refine Wp.seq ?_
       repeat' first|(apply qCl;rfl;rfl;rfl;rfl;first|exact k1|exact k2|exact k3)|refine Ka ?_|refine Kz ?_|refine Ku ?_|fail
       exact RetR.ret rfl ⟨_,_,q,_,lv,nt,rfl,rfl,.refl _ _,U5 (x:= .mk 1 nm so true []) (VA _ _ _).symm,rfl,hql,hQ⟩
     · rw[if_neg h58, if_pos rfl]at hat
       have hQ:TmQ S (d+1) p [.agg (Tm.mk 1 nm 0 true []).cells,.bool true] p2:= .yes hat rfl
       by_cases hlt:p2<S.length
       · rw[decide_eq_true (by omega)]at hlx
         obtain⟨c,hc⟩:∃c,S[p2]? = some c:=⟨S[p2],by simp⟩
         have hx:=Zmc hc
         have he:=ZtP c
         rw[show decide (c=58)=false by rw[← Vb 58 c (S.drop (p2+1)), ← Zw hc];simpa using h58]at he
         clear hc hat h58 hnm hnl hp2
         refine Zt (own:=fun _=>false) tOk fe90.ok ?_
         refine Wp.seq ?_
         repeat' first|refine Jc k1 ?_|refine Jc k2 ?_|refine Ka ?_|refine Kz ?_|refine KA ?_|fail
         exact RetR.ret rfl ⟨_,_,p2,_,lv,nt,rfl,rfl,.refl _ _,U5 (x:= .mk 1 nm 0 true []) (VA _ _ _).symm,rfl,hp2l,hQ⟩
       · rw[decide_eq_false (by omega)]at hlx
         clear hat h58 hnm hnl hp2
         refine Zt (own:=fun _=>false) tOk fe90.ok ?_
         refine Wp.seq ?_
         repeat' first|refine Jc k1 ?_|refine Jc k2 ?_|refine Kr ?_|refine JD ?_|refine Kl ?_|fail
         exact RetR.ret rfl ⟨_,_,p2,_,lv,nt,rfl,rfl,.refl _ _,U5 (x:= .mk 1 nm 0 true []) (VA _ _ _).symm,rfl,hp2l,hQ⟩
   | false=>
   rw[if_neg (by decide)]at hat
   have k3:=(Zjg (w:=[40]) hp2l hS (by decide) A lv nt).two rfl hA (XZ _ _ _) [.cells 4 [zcQ]]
   by_cases h40:YR [40] (S.drop p2)=true
   case neg=>
    rw[if_neg h40]at hat k3
    rw[show YR [40] (S.drop p2)=false by simpa using h40]at k3
    rw[Zf6]at hat
    have k4:=(Zpi hp2l hS 0 A lv nt).two rfl hA (XZ _ _ _) [.cells 4 [zcQ],.cells 4 [[.int .i64 2,.str nm,.int .i64 0,.nils]]]
    rw[ZqP,ZqO]at k4
    by_cases h58:YR [58] (S.drop p2)=true
    · rw[if_pos h58, if_pos h58]at k4
      rw[if_pos h58,if_neg (c:=false=true) (by decide),if_neg (c:=false=true) (by decide)]at hat
      have hp3:=ZaV h58
      simp only[List.length_nil]at hp3
      have hwl:=UN (S.drop (p2+1))
      rw[List.length_drop]at hwl
      generalize YW (S.drop (p2+1))=w at k4 hat hwl
      have hql:p2+1+w.length≤S.length:=by omega
      generalize p2+1+w.length=q at k4 hat hql
      generalize ZcB w=so at k4 hat
      have hQ:TmQ S (d+1) p [.agg (Tm.mk 2 nm so true []).cells,.bool (decide ((0:Int)≤so))] q:=by
       by_cases h1:(0:Int)≤so
       · rw[if_pos h1]at hat
         exact .yes hat (by rw[decide_eq_true h1])
       · rw[if_neg h1]at hat
         exact .no hat _ (by rw[decide_eq_false h1])
      generalize decide ((0:Int)≤so)=B at k4 hQ
      clear hat h58 h40 hp3 hnm hnl hp2 hwl
      refine Zt (own:=fun _=>false) tOk fe90.ok ?_
      refine Wp.seq ?_
      repeat' first|(apply qCl;rfl;rfl;rfl;rfl;first|exact k1|exact k2|exact k3|exact k4)|refine Ka ?_|fail
      exact RetR.ret rfl ⟨_,_,q,_,lv,nt,rfl,rfl,.refl _ _,U5 (x:= .mk 2 nm so true []) (VA _ _ _).symm,rfl,hql,hQ⟩
    · rw[if_neg h58, if_neg h58]at k4
      rw[if_neg h58,if_neg (by decide)]at hat
      clear h58 h40 hnm hnl hp2
      refine Zt (own:=fun _=>false) tOk fe90.ok ?_
      refine Wp.seq ?_
      repeat' first|(apply qCl;rfl;rfl;rfl;rfl;first|exact k1|exact k2|exact k3|exact k4)|refine Ka ?_|fail
      exact RetR.ret rfl ⟨_,_,p2,_,lv,nt,rfl,rfl,.refl _ _,U5 (x:= .mk 2 nm 0 true []) (VA _ _ _).symm,rfl,hp2l,.no hat (.mk 2 nm 0 true []) rfl⟩
   rw[if_pos h40]at hat k3
   rw[h40]at k3
   have hp3:=ZaV h40
   simp only[List.length_nil,List.length_cons]at hp3 k3
   have hfu:(S.drop p2).length=S.length-p2:=List.length_drop ..
   rw[hfu]at hat
   have hdr:S.length-(p2+1)<d:=by omega
   clear hfu h40 hnl hp2 hv1 hv2 hnm
   refine Zt (own:=fun _=>false) tOk fe90.ok ?_
   refine Wp.seq ?_
   repeat' first|(apply qCl;rfl;rfl;rfl;rfl;first|exact k1|exact k2|exact k3)|refine Ka ?_|fail
   clear k1 k2 k3
   refine Wp.while (fun m tm H => ∃(l : List Tm) (q : Nat) (base : TM) (o : PV) (lv2 : List Nat) (nt2 : Nat), p2 + 1 ≤ q ∧ q ≤ S.length ∧ S.length - q < m ∧ l.length ≤ q ∧ rdF (d + 1) (S.drop p) = (match Zen (rdF d) m l (S.drop q) with | none => none | some x => some (Tm.mk 3 nm 0 true x.1, x.2)) ∧
     ApV true 4 (Za l) o lv2 nt2∧(∀b es L o2,ApV b es L o2 lv nt→ApV b es L o2 lv2 nt2∧(Yc o2=none∨Yc o2≠Yc o))∧
     tm=ovr base [(0,.ptr 1 2 0 0),(2,.ptr 2 4 0 0),(9,.ptr 3 4 0 0)]∧H=⟨[A,pB S q,.cells 4 [zcQ],.cells 4 [[.int .i64 3,.str nm,.int .i64 0,o]]],0,lv2,nt2⟩)
    (fun m tm H hI=>Wp.drop ?_) (S.length-p2) _ _ ⟨[],p2+1,_,.nils,lv,nt,by omega,by omega,by omega,by simp,hat,.nil _ _ rfl,fun _ _ _ _ h=>⟨h,Zkf rfl⟩,Ze ⟨rfl,rfl,rfl,trivial⟩,rfl⟩
   clear hat
   obtain⟨l,q,base,o,lv2,nt2,hq1,hql,hqm,hll,hat,hO,hKT,rfl,rfl⟩:=hI
   obtain⟨m,rfl⟩:∃m',m=m'+1:=⟨m-1,by omega⟩
   rw[Znw]at hat
   have hfz:=fun b=>Znc (k:=3) (nm:=nm) hO b
   have hud:=fun b=>Znt (k:=3) (nm:=nm) hO b
   obtain⟨qo1,qo2⟩:=Zjj hO
   have hkt:KeepT lv nt lv2 nt2:=⟨fun b es L o2 h=>(hKT b es L o2 h).1⟩
   have hqc:[PV.int .i64 3,.str nm,.int .i64 0,o].all ZL=true:=by simp only[List.all_cons,List.all_nil,Bool.and_true]at qo2 ⊢;rw[qo2];rfl
   have k5:=(Zjg (w:=[41]) hql hS (by decide) A lv2 nt2).two rfl hA (XZ _ _ _) [.cells 4 [zcQ],.cells 4 [[.int .i64 3,.str nm,.int .i64 0,o]]]
   by_cases h41:YR [41] (S.drop q)=true
   · rw[h41, if_pos rfl]at k5
     rw[if_pos h41]at hat
     have hq2:=ZaV h41
     simp only[List.length_nil,List.length_cons]at hq2 k5
     clear h41 hO hKT
     repeat' first|refine Jc k5 ?_|refine Ka ?_|fail
     exact RetR.ret rfl ⟨_,_,q+1,_,lv2,nt2,rfl,rfl,hkt,hfz true,hud true,by omega,.yes hat rfl⟩
   · rw[show YR [41] (S.drop q) = false by simpa using h41, if_neg (by decide)]at k5
     rw[if_neg h41]at hat
     have hle:=ZmS hO
     rw[Zb]at hle
     have hgt:=Xq (l.length:Int) 0
     have kc:=(Zjg (w:=[44,32]) hql hS (by decide) A lv2 nt2).two rfl hA (XZ _ _ _) [.cells 4 [zcQ],.cells 4 [[.int .i64 3,.str nm,.int .i64 0,o]]]
     by_cases h44:l≠ []∧YR [44,32] (S.drop q)=false
     · rw[if_pos h44]at hat
       rw[h44.2,if_neg (by decide)]at kc
       rw[decide_eq_true (by have:=List.length_pos_iff.2 h44.1;omega)]at hgt
       clear h41 h44 hO hKT
       repeat' first|refine Jc k5 ?_|refine Jc kc ?_|refine Kq ?_|refine Ka ?_|fail
       exact RetR.ret rfl ⟨_,_,q,_,lv2,nt2,rfl,rfl,hkt,hfz false,hud false,hql,.no hat (.mk 3 nm 0 true l) rfl⟩
     rw[if_neg h44]at hat
     obtain⟨q2,hq2⟩:∃q2,q2=if l= [] then q else q+2:=⟨_,rfl⟩
     rw[← hq2]at hat
     have hq2l:q≤q2∧q2≤S.length:=by
      by_cases hl:l= []
      · rw[hq2,if_pos hl];omega
      · rw[hq2, if_neg hl]
        have h2:YR [44,32] (S.drop q)=true:=by
         cases h3:YR [44,32] (S.drop q) with
         | true=>rfl
         | false=>exact absurd ⟨hl,h3⟩ h44
        have:=ZaV h2
        simp only[List.length_cons,List.length_nil]at this
        omega
     obtain⟨cs,q3,lv3,nt3,hc0,hk3,hq3,hQ⟩:=Zqb hS d q2 hq2l.2 (by omega) A lv2 nt2 hA
     have hc:=hc0.two rfl hA (XZ _ _ _) [.cells 4 [zcQ],.cells 4 [[.int .i64 3,.str nm,.int .i64 0,o]]]
     clear hc0
     have hO3:=hk3.k _ _ _ _ hO
     have hx0:∀x:Tm,PV.cells (.agg x.cells)=x.cells:=fun x=>rfl
     unfold TmQ at hQ
     cases hrd:rdF d (S.drop q2) with
     | none =>
       rw[hrd]at hQ hat
       obtain⟨x,rfl⟩:=hQ
       have hat:rdF (d+1) (S.drop p)=none:=hat
       have hkt3:=hkt.trans hk3
       clear hrd hO hKT h41 hO3
       obtain⟨xk,xn,xs,xb,xl⟩:=x
       simp only[Tm.cells]at hc
       by_cases hl:l= []
       · rw[if_pos hl]at hq2
         subst hq2
         rw[decide_eq_false (by rw[hl];simp)]at hgt
         clear kc h44 hl
         repeat' first|refine Jk ?_|refine Jc k5 ?_|refine Jc hc ?_|refine Kq ?_|refine Ka ?_|fail
         exact RetR.ret rfl ⟨_,_,q3,_,lv3,nt3,rfl,rfl,hkt3,hfz false,hud false,hq3,.no hat (.mk 3 nm 0 true l) rfl⟩
       · rw[if_neg hl]at hq2
         subst hq2
         have h2:YR [44,32] (S.drop q)=true:=by
          cases h3:YR [44,32] (S.drop q) with
          | true=>rfl
          | false=>exact absurd ⟨hl,h3⟩ h44
         rw[h2,if_pos rfl]at kc
         simp only[List.length_cons,List.length_nil]at kc
         rw[decide_eq_true (by have:=List.length_pos_iff.2 hl;omega)]at hgt
         clear h44 hl
         repeat' first|(apply qCl;rfl;rfl;rfl;rfl;first|exact k5|exact kc|exact hc)|refine Kq ?_|refine Ka ?_|fail
         exact RetR.ret rfl ⟨_,_,q3,_,lv3,nt3,rfl,rfl,hkt3,hfz false,hud false,hq3,.no hat (.mk 3 nm 0 true l) rfl⟩
     | some y =>
       obtain⟨x,rst⟩:=y
       rw[hrd]at hQ hat
       obtain⟨rfl,hd3⟩:=hQ
       simp only at hd3 hat hc
       subst hd3
       have hrl:=(ZfN d _ _ _ (by rw[List.length_drop];omega) hrd).len
       rw[List.length_drop,List.length_drop]at hrl
       have hsz:=WQ x
       have hxo:=Zr [x]
       obtain⟨o4,lv4,nt4,hap,hO4,hK4⟩:=hO3.app YB (.sl .full 4 [x.cells]) (by obtain⟨xk,xn,xs,xb,xl⟩:=x;exact hxo) (ZR (by rw[Zb];simp;omega) (by decide)) (by obtain⟨xk,xn,xs,xb,xl⟩:=x;rfl)
       rw[show Za l++ [x.cells]=Za (l++ [x]) by obtain⟨xk,xn,xs,xb,xl⟩:=x;rw[Zs];rfl]at hO4
       obtain⟨qp1,qp2⟩:=Zjj hO4
       have hKn:∀b es L o2,ApV b es L o2 lv nt→ApV b es L o2 lv4 nt4∧(Yc o2=none∨Yc o2≠Yc o4):=fun b es L o2 h=>hK4 _ _ _ _ (hk3.k _ _ _ _ (hKT b es L o2 h).1) (hKT b es L o2 h).2
       have hun:=hO4.under
       have hl2:(l++ [x]).length≤q3:=by rw[List.length_append,List.length_singleton];omega
       have hA4:=Zdt (m:=4) (by decide) hA
       have hb1:p2+1≤q3:=by omega
       have hb2:S.length-q3<m:=by omega
       clear hrd hO hKT h41 hO3 hk3 hK4 hsz hxo hrl
       obtain⟨xk,xn,xs,xb,xl⟩:=x
       simp only[Tm.cells]at hc hap
       by_cases hl:l= []
       · rw[if_pos hl]at hq2
         subst hq2
         rw[decide_eq_false (by rw[hl];simp)]at hgt
         clear kc h44
         repeat' first|refine Jk ?_|refine Jc k5 ?_|refine Jc hc ?_|refine Kw ?_|refine Kq ?_|refine Ka ?_|(apply qSt;rfl;rfl;assumption;exact IsL.n;rfl;assumption;(first|rfl|assumption);exact IsH.mkN)|fail
         refine DropQ.go [(0,.ptr 1 2 0 0),(2,.ptr 2 4 0 0),(9,.ptr 3 4 0 0)] ⟨rfl,rfl,rfl,trivial⟩ (by simp[under]) rfl ?_ ?_
         · show(Yy 4 A && (Yy 4 (pB S q3) && (Yy 4 _ && (Yy 4 _ && true)))) = true
           rw[hA4,XZ]
           simp[Yy,ZO,under,hun]
         · exact LoopI.go m (Nat.lt_succ_self m) ⟨l++ [.mk xk xn xs xb xl],q3,_,o4,lv4,nt4,hb1,hq3,hb2,hl2,hat,hO4,hKn,rfl,rfl⟩
       · rw[if_neg hl]at hq2
         subst hq2
         have h2:YR [44,32] (S.drop q)=true:=by
          cases h3:YR [44,32] (S.drop q) with
          | true=>rfl
          | false=>exact absurd ⟨hl,h3⟩ h44
         rw[h2,if_pos rfl]at kc
         simp only[List.length_cons,List.length_nil]at kc
         rw[decide_eq_true (by have:=List.length_pos_iff.2 hl;omega)]at hgt
         clear h44
         repeat' first|(apply qCl;rfl;rfl;rfl;rfl;first|exact k5|exact kc|exact hc)|refine Kw ?_|refine Kq ?_|refine Ka ?_|(apply qSt;rfl;rfl;assumption;exact IsL.n;rfl;assumption;(first|rfl|assumption);exact IsH.mkN)|fail
         refine DropQ.go [(0,.ptr 1 2 0 0),(2,.ptr 2 4 0 0),(9,.ptr 3 4 0 0)] ⟨rfl,rfl,rfl,trivial⟩ (by simp[under]) rfl ?_ ?_
         · show(Yy 4 A && (Yy 4 (pB S q3) && (Yy 4 _ && (Yy 4 _ && true)))) = true
           rw[hA4,XZ]
           simp[Yy,ZO,under,hun]
         · exact LoopI.go m (Nat.lt_succ_self m) ⟨l++ [.mk xk xn xs xb xl],q3,_,o4,lv4,nt4,hb1,hq3,hb2,hl2,hat,hO4,hKn,rfl,rfl⟩
end Go.Vm.Seat
namespace Go.Vm
variable {d:Nat} {s:List UInt8} {t:Tm}
theorem Zit (h:rdF d s=none):Qv d s=(.mk 0 [] 0 true [],2):=by rw[Qv,h]
theorem ZcE {c:UInt8} {r:List UInt8} (h:rdF d s=some (t,c::r)):Qv d s=(.mk 0 [] 0 true [],2):=by rw[Qv,h]
theorem Zga (h:rdF d s=some (t,[])) (hv:t.valid≠0):Qv d s=(.mk 0 [] 0 true [],t.valid):=by rw[Qv,h];exact if_pos hv
theorem Ze9 (h:rdF d s=some (t,[])) (hv:t.valid=0):Qv d s=(t,0):=by rw[Qv,h];exact if_neg (by omega)
end Go.Vm
namespace Go.Vm.Seat
open Go.Proofs
theorem Zlh (t:Tm) (e:Int) (m:Nat) (H:Heap):frz3 m H (.tup [.agg t.cells,.int .i64 e])=some (.tup [.agg t.cells,.int .i64 e]):=by
 have h2:frz2 m H (.agg t.cells)=some (.agg t.cells):=by obtain⟨k,nm,s,b,kz⟩:=t;show(match Wr m H [.int .i64 k,.str nm,.int .i64 s,slV b 4 (Za kz)] with|some cs'=>some (PV.agg cs')|none=>none)=_;simp only[Wr,Qz];rfl
 rw[Xu];simp only[Wu,h2];rfl
theorem ZbS:(Tm.mk 0 [] 0 true []).cells=zcQ:=by simp[Tm.cells,Za,Zi]
theorem c54 {S:List UInt8} (hS:S.length≤1000000):∀H,CO 54 [.str S] H (.tup [.agg (Qv (S.length+1) S).1.cells,.int .i64 (Qv (S.length+1) S).2]) H:=by
 obtain⟨cs,q,lv,nt,hc,hk,hq,hQ⟩:=Zqb hS (S.length+1) 0 (Nat.zero_le _) (by omega) (.cells 4 [zcQ]) [] 0 rfl;have hlx:=Zu (q:Int) (S.length:Int);unfold TmQ at hQ;rw[List.drop_zero]at hQ;cases h:rdF (S.length+1) S with
 |none=>
  rw[h]at hQ;obtain⟨x,rfl⟩:=hQ;rw[Zit h];clear h;simp only[ZbS];obtain⟨xk,xn,xs,xb,xl⟩:=x;simp only[Tm.cells]at hc;refine Jw tOk fe54.ok rfl ?_;repeat' first|refine Jk ?_|refine Jc hc ?_|refine Ka ?_|fail
  all_goals rfl
 |some y=>
  obtain⟨t,r⟩:=y;rw[h]at hQ;obtain⟨rfl,hd⟩:=hQ;simp only at hd hc;have hrd:=ZfN _ _ _ _ hS h;have hlen:=hrd.len;have hsz:=WQ t;have cV:=c65 hrd.ok (by omega);have n1:=WZ t.valid 0;cases r with
  | cons c r=>rw[ZcE h];(have hql:q<S.length:=by have:=congrArg List.length hd;rw[List.length_drop,List.length_cons]at this;omega);rw[decide_eq_true (by omega)]at hlx;clear h hd hrd cV;simp only[ZbS];obtain⟨xk,xn,xs,xb,xl⟩:=t;simp only[Tm.cells]at hc;refine Jw tOk fe54.ok rfl ?_;(repeat' first|refine Jc hc ?_|refine Kg ?_|fail);all_goals rfl
  | nil=>(have hql:S.length≤q:=by have:=congrArg List.length hd;rw[List.length_drop,List.length_nil]at this;omega);rw[decide_eq_false (by omega)]at hlx;by_cases hv:t.valid=0;{rw[Ze9 h hv];rw[hv]at cV n1;rw[decide_eq_true rfl]at n1;clear h hd hrd;have hfr:=fun m H=>Zlh t 0 m H;obtain⟨xk,xn,xs,xb,xl⟩:=t;simp only[Tm.cells]at hc cV hfr ⊢;refine Jw tOk fe54.ok (hfr _ _) ?_;(repeat' first|refine Jc hc ?_|refine Jc (cV _) ?_|refine Kg ?_|fail);all_goals exact hfr _ _};{rw[Zga h hv];rw[decide_eq_false hv]at n1;generalize t.valid=e at cV n1 ⊢;clear h hd hrd hv;simp only[ZbS];obtain⟨xk,xn,xs,xb,xl⟩:=t;simp only[Tm.cells]at hc cV;refine Jw tOk fe54.ok rfl ?_;(repeat' first|refine Jc hc ?_|refine Jc (cV _) ?_|refine Kg ?_|fail);all_goals rfl}
end Go.Vm.Seat
namespace Go.Vm
end Go.Vm
namespace Go.Vm.Seat
open Go.Proofs
theorem ZsG:((List.range 6).all fun i=>VY E0 60 60 ⟨118,[.int .i64 (i:Int)],.str ((Zn5[i]?).getD [])⟩)=true:=by kernel_rfl
theorem Zt7 {i:Nat} {w:List UInt8} (h:Zn5[i]? = some w):∀H,CO 118 [.int .i64 (i:Int)] H (.str w) H:=by
 have hi:i<6:=by have:=Zz h;simpa[Zn5] using this
 have:=XB tOk follows fOk zOk (List.all_eq_true.1 ZsG i (List.mem_range.2 hi));rw[h]at this;exact this
end Go.Vm.Seat
namespace Go.Vm
end Go.Vm
namespace Go.Vm.Seat
open Go.Proofs
theorem ZtO (a b:List UInt8):XM E0 .neq 9 (.str a) (.str b)=some (.bool (!decide (a=b))):=by show some (PV.bool (!(a==b)))=_;by_cases h:a=b<;>simp[h]
end Go.Vm.Seat
namespace Go.Vm
end Go.Vm
namespace Go.Vm.Seat
open Go.Proofs
theorem ZoI:ApT E0 29 29 1 16:=⟨_,_,_,_,_,rfl,rfl,rfl,rfl,rfl,rfl,rfl,by decide,rfl⟩
theorem Zlg (l:List ZY):(ZD l).all (fun c=>c.all ZL)=true:=by simp only[ZD,List.all_map,List.all_eq_true];intro x _;rfl
theorem ZkC (l:List ZY):noB (ZD l)=true:=by simp only[noB,ZD,List.all_map,List.all_eq_true];intro x _;rfl
theorem Zsc {d:Nat} (hd:d<10):Zdb E0 47 9 (.sl .full 1 [[.int .u8 (IntKind.u8.wrap (IntKind.i64.wrap (48+(d:Int))))]])=some (.str [UInt8.ofNat (48+d)]):=by
 have e1:IntKind.u8.wrap (IntKind.i64.wrap (48+(d:Int)))=((48+d:Nat):Int):=by rcases(show d=0∨d=1∨d=2∨d=3∨d=4∨d=5∨d=6∨d=7∨d=8∨d=9 by omega) with rfl|rfl|rfl|rfl|rfl|rfl|rfl|rfl|rfl|rfl<;>rfl
 rw[e1];rcases(show d=0∨d=1∨d=2∨d=3∨d=4∨d=5∨d=6∨d=7∨d=8∨d=9 by omega) with rfl|rfl|rfl|rfl|rfl|rfl|rfl|rfl|rfl|rfl<;>rfl
theorem ZgP:∀(f u:Nat),u<10 ^ f→u≤1000000000→∀H,CO 81 [.int .i64 (u:Int)] H (.str (Lib.decDigits u)) H:=by
 intro f;induction f with
 |zero=>
  intro u h _;have:u=0:=by simpa using h
  subst this;have hc:=Zsc (d:=0) (by omega);rw[Zot (by omega)];refine Jw tOk fe81.ok rfl ?_;repeat' first|refine Js ?_|refine KP ?_|refine Ka ?_|fail
  all_goals rfl
 |succ f ih=>intro u h hu;by_cases hlt:u<10;{have hc:=Zsc (d:=u) hlt;rw[Zot hlt];refine Jw tOk fe81.ok rfl ?_;(repeat' first|refine Js ?_|refine KP ?_|refine Jb ?_ ?_|refine Jo ?_|refine Kb ?_|intro hb);{rfl};{exfalso;simp at hb;omega}};{(have hq:IntKind.i64.wrap ((u:Int).tdiv 10)=((u / 10:Nat):Int):=by(have:(u:Int).tdiv 10=((u / 10:Nat):Int):=by rw[Int.tdiv_eq_ediv_of_nonneg (by omega)];omega);rw[this];exact Zd (by omega));(have hm:(u:Int).tmod 10=((u % 10:Nat):Int):=by rw[Int.tmod_eq_emod_of_nonneg (by omega)];omega);have hr:=ih (u / 10) (by rw[Nat.pow_succ]at h;omega) (by omega);rw[← hq]at hr;have hc:=Zsc (d:=u % 10) (by omega);rw[← hm]at hc;(have hlen:(Lib.decDigits (u / 10)).length≤1000:=by rw[Lib.decDigits_length];have:=Lib.nDigits_le20 (u / 10) (by omega);omega);rw[ZqT hlt];generalize Lib.decDigits (u / 10)=s at hr hlen ⊢;(have had:XM E0 .add 9 (.str s) (.str [UInt8.ofNat (48+u % 10)])=some (.str (s++ [UInt8.ofNat (48+u % 10)])):=by show Znr .add s _=_;simp only[Znr];rw[if_pos (by simp;omega)]);refine Jw tOk fe81.ok rfl ?_;(repeat' first|refine Js ?_|refine Jb ?_ ?_|refine Jo ?_|refine Jd (hr _) ?_|refine JB ?_|refine JD ?_|(apply dCv;rfl;rfl;rfl;assumption;exact IsV.any _;rfl)|refine Kb ?_|intro hb);{exfalso;simp at hb;omega};{rfl}}
theorem c81 {u:Nat} (hu:u≤999999):∀H,CO 81 [.int .i64 (u:Int)] H (.str (Lib.decDigits u)) H:=ZgP 6 u (by omega) (by omega)
