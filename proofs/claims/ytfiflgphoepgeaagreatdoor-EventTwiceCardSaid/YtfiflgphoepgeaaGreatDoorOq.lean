/-
  The powers of a term: exponent.Of; a copy of powers: exponent.copied.
-/
import Derived.Test.YtfiflgphoepgeaaGreatDoorOm
set_option maxHeartbeats 0
set_option maxRecDepth 100000
namespace Go.Vm.Seat
variable {l:List Pw} {i:Nat} {x:Pw} {H:Heap} {t:Tm} {n:Int}
open Go.Proofs
theorem ZmJ (l:List Pw) (i:Nat) (y:Pw):(pwL l).set i (pwC y)=pwL (l.set i y):=by simp only [pwL,List.map_set]
theorem ZlJ (h:l[i]? = some x):nth (pwL l) i=some (pwC x):=(Zo _ _).trans (Xb h)
theorem Zls (hb:nth H.bx 0=some (.cells 5 (pwL l))) (h:l[i]? = some x):YK E0 3 (.ptr 0 5 (0+i) 4) H=some (.int .i64 x.2):=by
 rw [Nat.zero_add]
 exact ZeN (ti:=⟨.int .i64,1,8,.int .i64 0⟩) rfl rfl hb (ZlJ h) (by
  obtain ⟨⟨k,nm,s,b,kz⟩,m⟩:=x
  rfl)
theorem Zn5 (h:l[i]? = some x) (m:Int) (B:Box):Heap.wr ⟨[.cells 5 (pwL l),B],0,[],0⟩ (.ptr 0 5 (0+i) 4) [.int .i64 m]=some ⟨[.cells 5 (pwL (l.set i (x.1,m))),B],0,[],0⟩:=by
 rw [Nat.zero_add,Zb5 (H:=⟨[.cells 5 (pwL l),B],0,[],0⟩) rfl (ZlJ h) (by rw [Zdz];exact Nat.le_refl 5) (Nat.zero_le _)]
 have e:(pwC x).take 4++([PV.int .i64 m]++(pwC x).drop (4+ [PV.int .i64 m].length))=pwC (x.1,m):=by
  obtain ⟨⟨k,nm,s,b,kz⟩,xn⟩:=x
  rfl
 rw [e,ZmJ]
 rfl
theorem Zke (hP : PlaceE l t i) (hx : l[i]? = some x) (h00 : x.1.cmp t = 0) (hxb : -1000000 ≤ x.2 ∧ x.2 ≤ 1000000) (hn : -1000000 ≤ n ∧ n ≤ 1000000) (hlen : l.length ≤ 1000)
  (hB:CallOk E0 Tryz.prog 193 [.own 0 5 0 l.length,.agg t.cells,.fn 194 []] ⟨[.cells 5 (pwL l),.cells 5 [pwC (t,n)]],0,[],0⟩ (.tup [.int .i64 (i:Int),.bool true]) ⟨[.cells 5 (pwL l),.cells 5 [pwC (t,n)]],0,[],0⟩) :
  ∃ r H1,CallOk E0 Tryz.prog 160 [.own 0 5 0 l.length,.agg (pwC (t,n))] ⟨[.cells 5 (pwL l)],0,[],0⟩ r H1∧ZkF (Ww l t n) r H1:=by
 rw [ZaE hP hx h00]
 have hil:=Zx hx
 have hia:=Zkx (id:=0) (ix:=0) hil
 have hld1:=Zls (H:=⟨[.cells 5 (pwL l),.cells 5 [pwC (t,n)]],0,[],0⟩) rfl hx
 have hadd:=ZkD (a:=x.2) (b:=n) (by omega) (by omega)
 have hwr:=Zn5 hx (x.2+n) (.cells 5 [pwC (t,n)])
 have hx2:(l.set i (x.1,x.2+n))[i]? = some (x.1,x.2+n):=by rw [List.getElem?_set_self hil]
 have hld2:=Zls (H:=⟨[.cells 5 (pwL (l.set i (x.1,x.2+n))),.cells 5 [pwC (t,n)]],0,[],0⟩) rfl hx2
 have heq:=YB (x.2+n) 0
 have hi1:Y2 E0 .add 3 (.int .i64 (i:Int)) (.int .i64 1)=some (.int .i64 ((i+1:Nat):Int)):=by
  rw [ZkD (by omega) (by omega)]
  congr 2
 have hl2:(l.set i (x.1,x.2+n)).length=l.length:=List.length_set
 have hdel:=Zm5 (H:=⟨[.cells 5 (pwL (l.set i (x.1,x.2+n))),.cells 5 [pwC (t,n)]],0,[],0⟩) (id:=0) (n:=l.length) (i:=i) (el:=pwL (l.set i (x.1,x.2+n))) rfl (Nat.zero_le _) (by rw [ZO,hl2]) hil hlen (Q6 _)
 have he:(pwL (l.set i (x.1,x.2+n))).take i++(pwL (l.set i (x.1,x.2+n))).drop (i+1)=pwL (l.take i++l.drop (i+1)):=by
  simp only [pwL,List.map_append,List.map_take,List.map_drop,List.map_set]
  rw [List.take_set_of_le (Nat.le_refl _),List.drop_set_of_lt (by omega)]
 rw [he] at hdel
 have hfin1:ZkF (l.take i++l.drop (i+1)) (.own 0 5 0 (l.length-1)) ⟨[.cells 5 (pwL (l.take i++l.drop (i+1))),.cells 5 [pwC (t,n)]],0,[],0⟩:=Ud (by simp only [List.length_append,List.length_take,List.length_drop];omega) rfl
 have hfin2:ZkF (l.set i (x.1,x.2+n)) (.own 0 5 0 l.length) ⟨[.cells 5 (pwL (l.set i (x.1,x.2+n))),.cells 5 [pwC (t,n)]],0,[],0⟩:=Ud hl2.symm rfl
 have hdel:CallOk E0 Tryz.prog 196 [.own 0 5 0 l.length,.int .i64 (i:Int),.int .i64 ((i+1:Nat):Int)] ⟨[.cells 5 (pwL (l.set i (x.1,x.2+n))),.cells 5 [pwC (t,n)]],0,[],0⟩ (.own 0 5 0 (l.length-1)) ⟨[.cells 5 (pwL (l.take i++l.drop (i+1))),.cells 5 [pwC (t,n)]],0,[],0⟩:=hdel
 by_cases hz:x.2+n=0
 · rw [if_pos hz]
   rw [decide_eq_true hz] at heq
   generalize l.take i++l.drop (i+1)=R at hdel hfin1 ⊢
   generalize l.set i (x.1,x.2+n)=S at hwr hld2 hdel
   clear hx2 hfin2 he hl2
   generalize x.2+n=m at hadd hwr hld2 heq
   obtain ⟨k,nm,s,b,kz⟩:=t
   simp only [pwC,Tm.cells,List.cons_append,List.nil_append] at hB hld1 hwr hld2 hdel hfin1 ⊢
   refine ZY (own:=fun _=>false) tOk fe160.ok ?_
   refine Wp.seq ?_
   repeat' first|refine Jc hB ?_|refine Jc hdel ?_|refine Ji ?_|refine JJ ?_|(apply qLd;rfl;rfl;rfl;assumption;exact IsV.any _)|refine Jt ?_|refine Jo ?_|refine JD ?_|refine JK ?_|(apply dLd;rfl;rfl;rfl;assumption;exact IsV.any _;(first|rfl|(show Nat.blt _ _=true;first|assumption|(simp [Nat.blt];done))))|refine Jh ?_|(apply Wp.drawS tOk follows;kernel_rfl;rfl)|fail
   all_goals exact RetR.ret rfl hfin1
 · rw [if_neg hz]
   rw [decide_eq_false hz] at heq
   generalize l.set i (x.1,x.2+n)=S at hwr hld2 hfin2 ⊢
   clear hx2 hfin1 he hl2 hdel
   generalize x.2+n=m at hadd hwr hld2 heq
   obtain ⟨k,nm,s,b,kz⟩:=t
   simp only [pwC,Tm.cells,List.cons_append,List.nil_append] at hB hld1 hwr hld2 hfin2 ⊢
   refine ZY (own:=fun _=>false) tOk fe160.ok ?_
   refine Wp.seq ?_
   repeat' first|refine Jc hB ?_|refine Ji ?_|refine JJ ?_|(apply qLd;rfl;rfl;rfl;assumption;exact IsV.any _)|refine Jt ?_|refine Jo ?_|refine JD ?_|refine JK ?_|(apply dLd;rfl;rfl;rfl;assumption;exact IsV.any _;(first|rfl|(show Nat.blt _ _=true;first|assumption|(simp [Nat.blt];done))))|refine Jh ?_|(apply Wp.drawS tOk follows;kernel_rfl;rfl)|fail
   all_goals exact RetR.ret rfl hfin2
theorem Zs7 (hA : Vb l) (hl : PwB 1000000 l) (ht : t.Ok ∧ t.size ≤ 100000) (hn : -1000000 ≤ n ∧ n ≤ 1000000) (hlen : l.length ≤ 1000) {v0 : PV} {L : List Box} (hM : Mut0 5 v0 L (pwL l)) :
  ∃ r H1,CallOk E0 Tryz.prog 160 [v0,.agg (pwC (t,n))] ⟨L,0,[],0⟩ r H1∧Out 5 H1 r (pwL (Ww l t n)):=by
 obtain ⟨i,fd,hP,hiff,hB⟩:=Zsh hA (fun x hx=>(hl x hx).1) ht hlen hM [.cells 5 [pwC (t,n)]]
 cases fd with
 | false =>
   obtain ⟨r,H1,h1,h2⟩:=Znf hP (fun x hx h=>by have:=hiff.2 ⟨x,hx,h⟩;cases this) ht hlen hM hB
   exact ⟨r,H1,Zsx h1,h2⟩
 | true =>
   obtain ⟨x,hx,h00⟩:=hiff.1 rfl
   rcases XH hM with ⟨rfl,rfl,h⟩|⟨rfl,rfl⟩
   · obtain rfl := ZbK h
     simp at hx
   · rw [ZO] at hB ⊢
     exact Zke hP hx h00 (hl x (List.mem_of_getElem? hx)).2 hn hlen hB
theorem ZiS (hA : Vb l) (hl : PwB 1000000 l) (ht : t.Ok ∧ t.size ≤ 100000) (hn : -1000000 ≤ n ∧ n ≤ 1000000) (hlen : l.length ≤ 1000) {v : PV} (hro : H.ro = 0) (hv : Mut 5 H.bx v (pwL l)) :
  ∃ v' B,CallOk E0 Tryz.prog 160 [v,.agg (pwC (t,n))] H v' {H with bx:=WE v H.bx++ [B]}∧Mut 5 (WE v H.bx++ [B]) v' (pwL (Ww l t n))∧(v'= .nils∨∃ m,v'= .own H.bx.length 5 0 m):=
 CallOk.mut hro hv (Y4 l) (by
  obtain ⟨k,nm,s,b,kz⟩:=t
  simp only [pwC,Tm.cells,List.cons_append,List.nil_append,ZM,frzG,UU,YI]
  rfl) fun v0 L hM=>Zs7 hA hl ht hn hlen hM
end Go.Vm.Seat
namespace Go.Vm
theorem Zmo {t:Tm} {n:Int} {l l':List Pw} (h:Vb l) (hn:n≠0) (e:t.col n l=some l'):Vb l':=by
 obtain ⟨h1,h2⟩:=U4 t n l h hn
 cases ha:t.ari with
 | true =>
   obtain ⟨e1,e2⟩:=h1 ha
   rw [e] at e1
   cases e1
   exact e2
 | false =>
   rw [h2 ha] at e
   cases e
theorem Zik {kz : List Tm} {i : Nat} {x : Tm} (n : Int) (l : List Pw) (h : kz[i]? = some x) : colL (kz.drop i) n l = match x.col n l with
  | some l'=>colL (kz.drop (i+1)) n l'
  | none=>none:=by
 rw [ZC h];rfl
end Go.Vm
namespace Go.Vm.Seat
variable {es:Nat} {H:Heap} {v:PV} {el:List (List PV)} {bx ext:List Box} {t:Tm} {l:List Pw}
open Go.Proofs
theorem ZhI (hf:ZX el=some el) (h:Mut es H.bx v el):Out es H v el:=by
 cases h with
 |nil=>exact .nil
 |own k _ h=>exact .own k el [] (by rw [List.append_nil];exact h) hf
theorem Zg0 {v0:PV} {L:List Box} (h:Mut0 es v0 L el):Mut es (L++ext) v0 el:=by
 cases h with
 |nil=>exact .nil
 |own=>exact .own 0 el rfl
theorem ZaZ (h:Mut es bx v el):Mut es (bx++ext) v el:=by
 cases h with
 |nil=>exact .nil
 |own k _ h=>exact .own k el (by rw [List.getElem?_append_left (Zx h)];exact h)
def ZsT (c:Option (List Pw)) (r:PV) (H:Heap):Prop:=(∃ l' v,c=some l'∧r= .tup [v,.bool true]∧Out 5 H v (pwL l'))∨(c=none∧r= .tup [.nils,.bool false])
def ZrF (t:Tm):Prop:=∀ {l:List Pw} {n B:Int},Vb l→PwB B l→0≤B→B+t.size≤1000000→l.length+t.size≤900→(n=1∨n= -1)→∀ {v0:PV} {L:List Box},Mut0 5 v0 L (pwL l)→
 ∃ r H1,CallOk E0 Tryz.prog 119 [v0,.agg t.cells,.int .i64 n] ⟨L,0,[],0⟩ r H1∧ZsT (t.col n l) r H1
theorem Zh8 (t:Tm) (n:Int):ZM [.agg t.cells,.int .i64 n]=some [.agg t.cells,.int .i64 n]:=by
 obtain ⟨k,nm,s,b,kz⟩:=t
 simp only [Tm.cells,ZM,frzG,UU,YI]
 rfl
theorem Zru (hw : ZrF t) {n B : Int} (hA : Vb l) (hl : PwB B l) (hB : 0 ≤ B) (hBt : B + t.size ≤ 1000000) (hlen : l.length + t.size ≤ 900) (hn : n = 1 ∨ n = -1) (hv : Mut 5 bx v (pwL l)) :
  (∃ l',t.col n l=some l'∧∃ v' bx',CallOk E0 Tryz.prog 119 [v,.agg t.cells,.int .i64 n] ⟨bx,0,[],0⟩ (.tup [v',.bool true]) ⟨bx',0,[],0⟩∧Mut 5 bx' v' (pwL l')∧bx.length≤bx'.length)∨
  (t.col n l=none∧∃ bx',CallOk E0 Tryz.prog 119 [v,.agg t.cells,.int .i64 n] ⟨bx,0,[],0⟩ (.tup [.nils,.bool false]) ⟨bx',0,[],0⟩∧bx.length≤bx'.length):=by
 cases hc:t.col n l with
 | some l' =>
   refine .inl ⟨l',rfl,?_⟩
   obtain ⟨v',B',h1,h2, -⟩:=CallOk.mutT (E:=E0) (P:=Tryz.prog) (f:=119) (q:= .bool true) rfl (H:=⟨bx,0,[],0⟩) (el':=pwL l') rfl hv (Y4 l) (Zh8 t n) fun v0 L hM=>by
    obtain ⟨r,H1,h1,h2⟩:=hw hA hl hB hBt hlen hn hM
    rw [hc] at h2
    rcases h2 with ⟨l2,v2,e,rfl,ho⟩|⟨e,_⟩
    · cases e
      exact ⟨v2,H1,h1,ho⟩
    · cases e
   exact ⟨v',_,h1,h2,by simp [XY]⟩
 | none =>
   refine .inr ⟨rfl,?_⟩
   have h1:=CallOk.mutF (E:=E0) (P:=Tryz.prog) (f:=119) (cs:=[.nils,.bool false]) rfl (H:=⟨bx,0,[],0⟩) rfl hv (Y4 l) (Zh8 t n) fun v0 L hM=>by
    obtain ⟨r,H1,h1,h2⟩:=hw hA hl hB hBt hlen hn hM
    rw [hc] at h2
    rcases h2 with ⟨l2,v2,e,_⟩|⟨_,rfl⟩
    · cases e
    · exact ⟨H1,h1⟩
   exact ⟨_,h1,by simp [XY]⟩
theorem Vv (bx:List Box) (B:Box):nth (bx++ [B]) bx.length=some B:=by rw [Zo];simp
theorem Yn (bx:List Box) (x:Tm):Heap.wr ⟨bx++ [.cells 4 [zcT]],0,[],0⟩ (.ptr bx.length 4 0 0) x.cells=some ⟨bx++ [.cells 4 [x.cells]],0,[],0⟩:=by
 obtain ⟨k',nm',s',b',kz'⟩:=x
 have h:=Zb5 (H:=⟨bx++ [.cells 4 [zcT]],0,[],0⟩) (id:=bx.length) (es:=4) (ix:=0) (off:=0) (el:=[zcT]) (cs:=(Tm.mk k' nm' s' b' kz').cells) (old:=zcT) (Vv _ _) rfl (Nat.le_refl 4) (Nat.zero_le _)
 rw [h]
 simp [Tm.cells,zcT]
theorem ZmS (bx:List Box) (x:Tm):YK E0 41 (.ptr bx.length 4 0 0) ⟨bx++ [.cells 4 [x.cells]],0,[],0⟩=some (.agg x.cells):=by
 obtain ⟨k',nm',s',b',kz'⟩:=x
 exact Zaz rfl rfl (el:=[(Tm.mk k' nm' s' b' kz').cells]) (Vv _ _) rfl rfl
theorem Zcz (t:Tm) (n:Int):Qx E0 157 [(0,.agg t.cells),(1,.int .i64 n)]=some (.agg (pwC (t,n))):=by
 obtain ⟨k,nm,s,b,kz⟩:=t
 rfl
theorem ZsN (ht:t.Ok):t.size≤400→ZrF t:=by
 induction ht with
 | @mk k nm s f kz hk hs hn hl hok ih=>
 intro hsz l n B hA hP hB hBt hlen hn1 v0 L hM
 have hins:=fun (h:(Tm.mk k nm s f kz).Ok) (bx:List Box) (hv:Mut 5 bx v0 (pwL l))=>ZiS (H:=⟨bx,0,[],0⟩) (n:=n) hA (hP.mono (by omega)) ⟨h,by omega⟩ (by omega) (by omega) rfl hv
 have hsp:=Zrt (.mk k nm s f kz)
 have hbd:=Zcz (.mk k nm s f kz) n
 simp only [Tm.size] at hsz hBt hlen
 have hkl:=Yj kz
 rw [Tm.col]
 simp only [Tm.sym,Tm.cells] at hsp hbd ⊢
 by_cases he:Zab k nm=true
 · rw [if_pos he]
   rw [he] at hsp
   clear hins hbd
   obtain ⟨n',hn'⟩:∃ n',n'=if nm=WJ then -n else n:=⟨_,rfl⟩
   have hn2:n'=1∨n'= -1:=by
    rw [hn']
    split<;>omega
   have hw:IntKind.i64.wrap (0-n)= -n:=by rw [IntWalk.i64_in _ (by omega)];omega
   have hlenK:=Zb kz
   obtain ⟨rfl,hnm⟩:=X7 he
   rw [← hn']
   by_cases har:arB nm kz.length=true
   · rw [if_pos har]
     obtain ⟨C,hC⟩:∃ C,C=colL kz n' l:=⟨_,rfl⟩
     rw [← hC]
     have hmu:=Zg0 (ext:=[.cells 4 [[.int .i64 3,.str nm,.int .i64 s,slV f 4 (Za kz)]]]) hM
     rcases XH hM with ⟨rfl,rfl,hpn⟩|⟨rfl,rfl⟩
     all_goals
      rcases hnm with rfl|rfl|rfl
      all_goals
       first
        | rw [if_pos rfl] at hn'
        | rw [if_neg (by decide)] at hn'
       simp only [Zbw,ZbX,Za5,Bool.not_eq_true',decide_eq_false_iff_not,decide_eq_true_eq] at har
       simp only [Vi,WJ,VF] at hsp hmu ⊢
       refine ZY (own:=fun _=>false) tOk fe119.ok ?_
       refine Wp.seq ?_
       repeat' first|refine Jk ?_|refine Jc (hsp _) ?_|refine Jl ?_|refine Jt ?_|refine Jb ?_ ?_|refine Jo ?_|intro hb
       all_goals try first
        | (exfalso;simp at hb<;>omega)
        | (exfalso;rw [hlenK] at hb;revert hb;simp only [bne_iff_ne,ne_eq];omega)
       refine Wp.while (fun m tm H => ∃ (i : Nat) (base : TM) (v : PV) (bx : List Box) (li : List Pw), i + m = kz.length ∧ Vb li ∧ PwB (B + Zl (kz.take i)) li ∧ li.length ≤ l.length + Zl (kz.take i) ∧ colL (kz.drop i) n' li = C ∧ Mut 5 bx v (pwL li) ∧
         tm=ovr base [(0,v),(2,.int .i64 n'),(52,slV f 4 (Za kz)),(53,.int .i64 (kz.length:Int)),(54,.int .i64 (i:Int))]∧H=⟨bx,0,[],0⟩)
        (fun m tm H hI=>?_) kz.length _ _ ⟨0,_,_,_,l,by omega,hA,by simpa [Zl] using hP,by simp [Zl],by rw [List.drop_zero,hC],hmu,Zf ⟨rfl,Zd (by first|(rw [hn'];done)|(rw [hn'];exact hw)),rfl,Zd (by rw [Zb]),rfl,trivial⟩,rfl⟩
       clear hmu hC hA hP hn1
       obtain ⟨i,base,v,bx,li,hi,fA,fP,fL,fC,fM,rfl,rfl⟩:=hI
       have h4:=ZD kz i
       by_cases hlt:i<kz.length
       · obtain ⟨x, hx⟩ : ∃ x, kz[i]? = some x := ⟨kz[i], by simp⟩
         have hm:x∈kz:=List.mem_of_getElem? hx
         have hle:=ZR hm
         have h5:Zl (kz.take (i+1))=Zl (kz.take i)+x.size:=by
          rw [List.take_add_one,hx,VI]
          simp [Zl]
         have h6:=ZD kz (i+1)
         rw [Zik n' li hx] at fC
         have hn3: -1≤n'∧n'≤1:=by omega
         have hn4:n'≠0:=by omega
         have hs3:x.size≤100000:=by omega
         have hB3:0≤B+(Zl (kz.take i):Int):=by omega
         have fP':∀ l',x.col n' li=some l'→PwB (B+Zl (kz.take i)+x.size) l':=fun l' e=>Zm7 x n' li l' (B+Zl (kz.take i)) hB3 hn3 (hok x hm) hs3 fP e
         have fL':∀ l',x.col n' li=some l'→l'.length≤li.length+x.size:=fun l' e=>ZdU x n' li l' e
         have fA':∀ l',x.col n' li=some l'→Vb l':=fun l' e=>Zmo fA hn4 e
         have hv2:Mut 5 (bx++ [.cells 4 [x.cells]]) v (pwL li):=ZaZ fM
         have hcol:=Zru (ih x hm (by omega)) fA fP (by omega) (by omega) (by omega) hn2 hv2
         have hal:∀ ρ,aOp E0 false ρ (.alloc 41) ⟨bx,0,[],0⟩=some (.ptr bx.length 4 0 0,⟨bx++ [.cells 4 [zcT]],0,[],0⟩):=fun ρ=>rfl
         have hwr:=Yn bx x
         have hld:=ZmS bx x
         have hlx:=Zt (i:Int) (kz.length:Int)
         rw [decide_eq_true (by omega)] at hlx
         clear ih hv2
         rcases hcol with ⟨l',e,v',bx',hc,hM', -⟩|⟨e,bx',hc, -⟩
         · have p1 := fP' l' e
           have p2:=fL' l' e
           have p3:=fA' l' e
           rw [e] at fC
           obtain ⟨k',nm',s',b',kz'⟩:=x
           have hj:=Zk hx
           simp only [Tm.cells] at hc hld hwr
           clear fP' fL' fA' fM
           repeat' first|refine Jc hc ?_|(apply RegQ.rAl;rfl;rfl;assumption)|refine Ji ?_|(apply qLd;rfl;rfl;rfl;assumption;exact IsV.any _)|refine Jx ?_|refine Jt ?_|refine Jo ?_|fail
           exact LoopI.go (m-1) (by omega) ⟨i+1,_,v',bx',l',by omega,p3,by rw [h5];exact p1.mono (by push_cast;omega),by omega,fC,hM',Zf ⟨rfl,rfl,rfl,rfl,Zd (Zc (n:=i+1) (by omega)),trivial⟩,rfl⟩
         · rw [e] at fC
           obtain ⟨k',nm',s',b',kz'⟩:=x
           have hj:=Zk hx
           simp only [Tm.cells] at hc hld hwr
           clear fP' fL' fA' fM
           repeat' first|refine Jc hc ?_|(apply RegQ.rAl;rfl;rfl;assumption)|refine Ji ?_|(apply qLd;rfl;rfl;rfl;assumption;exact IsV.any _)|refine Jx ?_|refine Jt ?_|refine Jo ?_|fail
           exact RetR.ret rfl (.inr ⟨fC.symm,rfl⟩)
       · have e : i = kz.length := by omega
         subst e
         rw [List.drop_length,colL] at fC
         clear ih
         have hlx:=Zt (kz.length:Int) (kz.length:Int)
         rw [decide_eq_false (by omega)] at hlx
         repeat' first|refine Ji ?_|refine Jt ?_|refine Jo ?_|fail
         exact RetR.ret rfl (.inl ⟨li,v,fC.symm,rfl,ZhI (H:=⟨bx,0,[],0⟩) (Y4 li) fM⟩)
   · rw [if_neg har]
     clear ih
     rcases XH hM with ⟨rfl,rfl,hpn⟩|⟨rfl,rfl⟩
     all_goals
      rcases hnm with rfl|rfl|rfl
      all_goals
       simp only [Zbw,ZbX,Za5,Bool.not_eq_true',decide_eq_false_iff_not,decide_eq_true_eq] at har
       simp only [Vi,WJ,VF] at hsp ⊢
       refine ZY (own:=fun _=>false) tOk fe119.ok ?_
       refine Wp.seq ?_
       repeat' first|refine Jk ?_|refine Jc (hsp _) ?_|refine Jl ?_|refine Jt ?_|refine Jb ?_ ?_|refine Jo ?_|intro hb
       all_goals first
        | (exfalso;simp at hb<;>omega)
        | (exfalso;rw [hlenK] at hb;revert hb;simp only [bne_eq_false_iff_eq];omega)
        | exact RetR.ret rfl (.inr ⟨rfl,rfl⟩)
 · rw [if_neg he]
   rw [Bool.eq_false_iff.2 he] at hsp
   have hmu:=Zg0 (ext:=[.cells 4 [[.int .i64 k,.str nm,.int .i64 s,slV f 4 (Za kz)]]]) hM
   obtain ⟨v',B',hc,hM', -⟩:=hins (.mk hk hs hn hl hok) _ hmu
   have hfin:=ZhI (H:=⟨_,0,[],0⟩) (Y4 _) hM'
   clear ih hins
   simp only [pwC,Tm.cells,List.cons_append,List.nil_append] at hbd hc
   rcases XH hM with ⟨rfl,rfl,hpn⟩|⟨rfl,rfl⟩
   all_goals
    refine ZY (own:=fun _=>false) tOk fe119.ok ?_
    refine Wp.seq ?_
    repeat' first|refine Jc (hsp _) ?_|refine Jc hc ?_|(apply qBd;rfl;rfl;rfl;assumption;exact IsV.aggN)|refine Jt ?_|refine Jo ?_|fail
    all_goals exact RetR.ret rfl (.inl ⟨_,v',rfl,rfl,hfin⟩)
theorem Zkl (hf:ZX el=some el) (h:Mut es bx v el):∃ b,frzC 0 ⟨bx,0,[],0⟩ v=some (slV b es el):=by
 cases h with
 |nil=>exact ⟨true,by rw [Zh];rfl⟩
 | own k _ h =>
   refine ⟨false,?_⟩
   have hn:nth bx k=some (.cells es el):=(Zo _ _).trans h
   simp only [frzC,Nat.not_lt_zero,if_false,hn]
   rw [if_pos ⟨trivial,by omega⟩,List.drop_zero,List.take_length,hf,Z3]
theorem Zod {m:Nat} {p:PV} (h:frzC m H v=some p) (hv:∀ cs,v≠ .agg cs):frz2 m H v=some p:=by
 cases v
 case agg cs=>exact absurd rfl (hv cs)
 all_goals exact h
theorem Zml (h:Mut es bx v el):∀ cs,v≠ .agg cs:=fun cs e=>by
 subst e
 cases h
theorem ZiT (hf:ZX el=some el) (h:Mut es bx v el):∃ b,∀ e:Int,frz3 0 ⟨bx,0,[],0⟩ (.tup [v,.int .i64 e])=some (.tup [slV b es el,.int .i64 e]):=by
 obtain ⟨b,hb⟩:=Zkl hf h
 refine ⟨b,fun e=>?_⟩
 rw [Xx]
 simp only [Vq,Zod hb (Zml h)]
 rfl
theorem WB (h:Mut 5 bx v (pwL l)):(v= .nils∧l= [])∨∃ k,v= .own k 5 0 l.length∧bx[k]? = some (.cells 5 (pwL l)):=by
 generalize e:pwL l=el at h
 cases h with
 |nil=>exact .inl ⟨rfl,ZbK e⟩
 | own k _ hk =>
   subst e
   exact .inr ⟨k,by rw [ZO],hk⟩
theorem c74 (ht:t.Ok) (hs:t.size≤100000):∃ b,∀ H,CallOk E0 Tryz.prog 74 [.agg t.cells] H (.tup [slV b 5 (pwL (ofG t).1),.int .i64 (ofG t).2]) H:=by
 have hV:=c41 ht (by omega)
 have hnil:slV true 5 (pwL [])= .nils:=Zh 5
 unfold ofG
 by_cases h1:t.valid≠0
 · rw [if_pos h1]
   refine ⟨true,?_⟩
   rw [hnil]
   generalize t.valid=v at hV h1 ⊢
   have hne:=YQ h1
   obtain ⟨k,nm,s,f,kz⟩:=t
   simp only [Tm.cells] at hV ⊢
   refine Jw tOk fe74.ok rfl ?_
   repeat' first|refine Jc (hV _) ?_|refine Ji ?_|refine Jo ?_|fail
   all_goals rfl
 · rw [if_neg h1]
   have h1:=Classical.not_not.1 h1
   have hsz:=Yu h1
   rw [h1] at hV
   have hcol:=Zru (bx:=[.cells 4 [t.cells]]) (ZsN ht hsz) (l:=[]) (n:=1) (B:=0) trivial (PwB.nil 0) (by omega) (by omega) (by simp;omega) (.inl rfl) .nil
   rcases hcol with ⟨l',e,v',bx',hc,hM, -⟩|⟨e,bx',hc, -⟩
   · rw [e]
     obtain ⟨F,hF⟩:=ZiT (Y4 l') hM
     clear e
     dsimp only
     obtain ⟨n,hn⟩:∃ n,n=l'.length:=⟨_,rfl⟩
     have hgt:=Xw (n:Int) 200
     have hmc:=WB hM
     rw [← hn] at hmc
     by_cases h3:200<l'.length
     · rw [if_pos h3]
       refine ⟨true,?_⟩
       rw [hnil]
       rw [decide_eq_true (by omega)] at hgt
       clear hF
       obtain ⟨k,nm,s,f,kz⟩:=t
       simp only [Tm.cells] at hV hc ⊢
       refine Jw tOk fe74.ok rfl ?_
       rcases hmc with ⟨rfl,rfl⟩|⟨q,rfl, -⟩
       · exfalso;simp at h3
       repeat' first|refine Jc (hV _) ?_|refine Jc hc ?_|refine Ji ?_|refine Jt ?_|refine Jo ?_|fail
       all_goals rfl
     · rw [if_neg h3]
       refine ⟨F,?_⟩
       rw [decide_eq_false (by omega)] at hgt
       obtain ⟨k,nm,s,f,kz⟩:=t
       simp only [Tm.cells] at hV hc ⊢
       refine Jw tOk fe74.ok (QM _ _ _ _ _) ?_
       rcases hmc with ⟨rfl,rfl⟩|⟨q,rfl, -⟩
       · obtain rfl : n = 0 := hn
         repeat' first|refine Jc (hV _) ?_|refine Jc hc ?_|refine Ji ?_|refine Jt ?_|refine Jo ?_|fail
         all_goals exact hF 0
       repeat' first|refine Jc (hV _) ?_|refine Jc hc ?_|refine Ji ?_|refine Jt ?_|refine Jo ?_|fail
       all_goals exact hF 0
   · rw [e]
     dsimp only
     refine ⟨true,?_⟩
     rw [hnil]
     clear e
     obtain ⟨k,nm,s,f,kz⟩:=t
     simp only [Tm.cells] at hV hc ⊢
     refine Jw tOk fe74.ok rfl ?_
     repeat' first|refine Jc (hV _) ?_|refine Jc hc ?_|refine Jt ?_|refine Jo ?_|fail
     all_goals rfl
