/-
  Texts of a proof, merged (RkD, RkE, RkF, RkG, RkH, RkI, OrF, RkJ, RkK, RkL, OrG, OrH, OrI). Conditions: in each statement.
-/
import Derived.Test.YthlffjlbidibdaaGreatDoorKHi
set_option linter.unusedSimpArgs false
set_option autoImplicit true
set_option relaxedAutoImplicit true
set_option linter.unusedVariables false
set_option linter.unusedSectionVars false
set_option maxRecDepth 100000
set_option maxHeartbeats 8000000
abbrev bj:=@Int.le_refl
abbrev bz:=@Int.emod_lt_of_pos
abbrev bE:=@Int.emod_nonneg
abbrev gk:=@List.replicate_succ'
namespace Go.Proofs.YthlffjlbidibdaaGreatDoor
open Go Go.Am Go.Vm
attribute [local irreducible] Aa Ah Ai Ad AL Ak Bf BK Bj Aj Vm.Done Bv AP
attribute [local irreducible] Cb Bg shz AV
def pI(r:GI):Prop:=r.name.length<9223372036854775808∧r.JX.length<9223372036854775808∧r.Em.length<9223372036854775808
noncomputable def Qr(r:GI)(n:Int):Int:=if Cb r≠0 then Cb r else if n<0∨n≥r.Em.length then 10 else 0
theorem a8z(r:GI)(n:Int)(h:pI r):Ak env 194 [.agg (Enc.enc r),.int .i64 n] (.p (.int .i64 (Qr r n))):=by
 have a:=Jh r h.1 h.2.1 h.2.2;unfold Qr;refine Ak.enter (Af (by decide)) Tryz.func194 rfl (by kernel_rfl) (by simp[Tryz.ntmps194]) ?_
 repeat' (first|refine a6 a ?_|refine Fh ?_|(apply Ah.guard;rfl;rfl)|refine a7 ?_|(apply ei;rfl)|(apply a8;rfl)|(intro _;try omega))
 all_goals first
  |(rw[if_pos (by assumption)];(refine aa ?_;try rfl);done)
  |(rw[if_neg (by assumption),if_pos (by omega)];(refine aa ?_;try rfl);done)
  |(rw[if_neg (by assumption),if_neg (by omega)];(refine aa ?_;try rfl);done)
def LG:FV:=.agg [.str ⟨#[]⟩,.str ⟨#[]⟩,.int .i64 0,.int .i64 0,.int .i64 0,.val (.slice none 0 0)]
def Uj(r:GI)(n:Int)(w:List Int):FV×Int:=if w.length>128 then(LG,4) else if¬ NM n then(LG,3) else(.agg (Enc.enc { r with first:=n,Em:=w }),0)
theorem kC(r:GI)(n:Int)(a b:List Int)(h:0<a.length+b.length)(g:a.length+b.length≤1000) :
 Ak env 195 [.agg (Enc.enc r),.int .i64 n,.lst 41 [.lst 3 (cells a) a.length,.lst 3 (cells b) b.length] 2] (.DK [.p (Uj r n (a++b)).1,.p (.int .i64 (Uj r n (a++b)).2)]):=by
 have e:=qO a b h g;have d:=VH n;have f:(a++b).length=a.length+b.length:=ar;rw[← f] at e;unfold Uj;refine Ak.enter (Af (by decide)) Tryz.func195 rfl (by kernel_rfl) (by simp[Tryz.ntmps195]) ?_;by_cases c:NM n
 ·rw[decide_eq_true c] at d
  repeat' (first|(refine Ad.at 2 ?_;refine cb (b6 8 rfl rfl) ?_;first|apply ce|apply da)|apply ce|(apply jz;rfl;rfl;exact e)|refine a6 d ?_|refine go2 ?_|refine a7 ?_|refine b7 ?_|(apply b5;rfl)|(apply c8;rfl)|(intro _;try omega))
  all_goals first|(rw[if_pos (by omega)];(refine aa ?_;try rfl);done)|(rw[if_neg (by omega),if_neg (bR.2 c)];(refine aa ?_;try rfl);done)|(rw[if_neg (by omega),if_pos c];(refine aa ?_;try rfl);done)
 ·rw[decide_eq_false c] at d
  repeat' (first|(refine Ad.at 2 ?_;refine cb (b6 8 rfl rfl) ?_;first|apply ce|apply da)|apply ce|(apply jz;rfl;rfl;exact e)|refine a6 d ?_|refine go2 ?_|refine a7 ?_|refine b7 ?_|(apply b8;rfl)|(apply c8;rfl)|(intro _;try omega))
  all_goals first|(rw[if_pos (by omega)];(refine aa ?_;try rfl);done)|(rw[if_neg (by omega),if_neg (bR.2 c)];(refine aa ?_;try rfl);done)|(rw[if_neg (by omega),if_pos c];(refine aa ?_;try rfl);done)
theorem kF(r:GI)(n:Int)(a:List Int)(f:0<a.length)(e:a.length≤1000) :
 Ak env 195 [.agg (Enc.enc r),.int .i64 n,.lst 41 [.lst 3 (cells a) a.length] 1] (.DK [.p (Uj r n a).1,.p (.int .i64 (Uj r n a).2)]):=by
 have d:=qF a f e;have c:=VH n;unfold Uj;refine Ak.enter (Af (by decide)) Tryz.func195 rfl (by kernel_rfl) (by simp[Tryz.ntmps195]) ?_;by_cases b:NM n
 ·rw[decide_eq_true b] at c
  repeat' (first|(refine Ad.at 2 ?_;refine cb (b6 8 rfl rfl) ?_;first|apply ce|apply da)|apply ce|(apply jz;rfl;rfl;exact d)|refine a6 c ?_|refine go2 ?_|refine a7 ?_|refine b7 ?_|(apply b5;rfl)|(apply c8;rfl)|(intro _;try omega))
  all_goals first|(rw[if_pos (by omega)];(refine aa ?_;try rfl);done)|(rw[if_neg (by omega),if_neg (bR.2 b)];(refine aa ?_;try rfl);done)|(rw[if_neg (by omega),if_pos b];(refine aa ?_;try rfl);done)
 ·rw[decide_eq_false b] at c
  repeat' (first|(refine Ad.at 2 ?_;refine cb (b6 8 rfl rfl) ?_;first|apply ce|apply da)|apply ce|(apply jz;rfl;rfl;exact d)|refine a6 c ?_|refine go2 ?_|refine a7 ?_|refine b7 ?_|(apply b8;rfl)|(apply c8;rfl)|(intro _;try omega))
  all_goals first|(rw[if_pos (by omega)];(refine aa ?_;try rfl);done)|(rw[if_neg (by omega),if_neg (bR.2 b)];(refine aa ?_;try rfl);done)|(rw[if_neg (by omega),if_pos b];(refine aa ?_;try rfl);done)
noncomputable def a1g(r:GI)(k:Int):Int×Bool×Int:=if Qr r k≠0 then(0,false,Qr r k) else if(AV r.CW ⟨8,1⟩).2≠0∨r.first+k+(AV r.CW ⟨8,1⟩).1<0∨r.first+k+(AV r.CW ⟨8,1⟩).1>127 then(0,false,(AV r.CW ⟨8,1⟩).2) else(r.first+k+(AV r.CW ⟨8,1⟩).1,true,0)
theorem kD(r:GI)(k:Int)(h:pI r)(c:Qr r k=0→-1000≤r.first∧r.first≤1000∧-1000≤k∧k≤1000)(e:-1000000≤(AV r.CW ⟨8,1⟩).1∧(AV r.CW ⟨8,1⟩).1≤1000000) :
 Ak env 172 [.agg (Enc.enc r),.int .i64 k] (.DK [.p (.int .i64 (a1g r k).1),.p (.bool (a1g r k).2.1),.p (.int .i64 (a1g r k).2.2)]):=by
 have a:=a8z r k h;have d:=NI r.CW ⟨8,1⟩;unfold a1g;generalize AV r.CW ⟨8,1⟩=S at *;refine Ak.enter (Af (by decide)) Tryz.func172 rfl (by kernel_rfl) (by simp[Tryz.ntmps172]) ?_;by_cases b:Qr r k=0
 ·have c:=c b
  rw[b] at a ⊢;rw[if_neg (by decide)]
  repeat' (first|refine a6 a ?_|refine a6 d ?_|refine Fh ?_|(apply Ah.guard;rfl;rfl)|refine a7 ?_|refine b7 ?_|(apply ei;rfl)|(apply cn;rfl)|(apply a8;rfl)|(intro _;try omega))
  all_goals first
   |omega
   |(rw[if_pos (by omega)];(refine aa ?_;try rfl);done)
   |(rw[if_neg (by omega)];(refine aa ?_;try rfl);done)
 ·rw[if_pos b]
  repeat' (first|refine a6 a ?_|refine go1 ?_|refine a7 ?_|(apply a8;rfl)|(intro _;try omega))
  all_goals first|omega|(refine aa ?_;try rfl)
end Go.Proofs.YthlffjlbidibdaaGreatDoor
namespace Go.Proofs.YthlffjlbidibdaaGreatDoor
open Go Go.Am Go.Vm
attribute [local irreducible] Aa Ah Ai Ad AL Ak Bf BK Bj Aj Vm.Done Bv AP
theorem b7v(b:Nat):∀(f a:Nat) (n:Int),n-12*f≤(sh1 b f a n).2∧(sh1 b f a n).2≤n
 |0,a,n=>by simp[sh1]
 |f+1,a,n=>by
  have:=b7v b f (a*2) (n-12);simp only[sh1];grind
theorem b6s(b:Nat):∀(f a:Nat) (n:Int),n≤(sh2 b f a n).2∧(sh2 b f a n).2≤n+12*f
 |0,a,n=>by simp[sh2]
 |f+1,a,n=>by
  have:=b6s b f (a*2) (n+12);simp only[sh2];grind
theorem b3u(p:Nat):∀(f l:Nat) (n:Int),n≤sh3 p f l n∧sh3 p f l n≤n+f
 |0,l,n=>by simp[sh3]
 |f+1,l,n=>by
  have:=b3u p f (l*4) (n+1);simp only[sh3];omega
theorem c7h(d c:Nat):-1000≤shN d c∧shN d c≤1000:=by
 unfold shN;simp only;have g:=b7v c 30 d 0;generalize sh1 c 30 d 0=a at *;have f:=b6s a.1 30 c a.2;generalize sh2 a.1 30 c a.2=b at *;have e:=b3u (a.1^24) 30 (b.1^24*2) b.2;omega
theorem a8x(x y:Lm):-1000≤(AV x y).1∧(AV x y).1≤1000:=by
 unfold AV;split
 ·simp
 ·exact c7h _ _
theorem ru(h:Cb r=0):(Dx r.name∧Dx r.JX)∧pOk r.CW∧(-256≤r.first∧r.first≤256)∧(0<r.Em.length∧r.Em.length≤128)∧okW r.Em:=by
 unfold Cb at h;split at h
 ·cases h
 rename_i b;split at h
 ·omega
 rename_i c;split at h
 ·cases h
 rename_i f;split at h
 ·cases h
 rename_i e;split at h
 ·cases h
 rename_i d;refine⟨⟨bR.1 fun a=>b (.inl a),bR.1 fun a=>b (.inr a)⟩,TS.1 (bR.1 c),by omega,by omega,?_⟩;unfold Bg at h;grind
attribute [local irreducible] Cb Bg shz AV
noncomputable def a2o(r:GI)(n:Int):Int×Bool×Int:=if Cb r≠0 then(0,false,Cb r) else if n<r.first∨n≥r.first+r.Em.length then(0,false,0) else(n-r.first,true,0)
theorem uX(r:GI)(n:Int)(h:pI r):Ak env 171 [.agg (Enc.enc r),.int .i64 n] (.DK [.p (.int .i64 (a2o r n).1),.p (.bool (a2o r n).2.1),.p (.int .i64 (a2o r n).2.2)]):=by
 have a:=Jh r h.1 h.2.1 h.2.2;unfold a2o;refine Ak.enter (Af (by decide)) Tryz.func171 rfl (by kernel_rfl) (by simp[Tryz.ntmps171]) ?_;by_cases b:Cb r=0
 ·obtain⟨-,-,d,c,-⟩:=ru b
  rw[b] at a ⊢;rw[if_neg (by decide)]
  repeat' (first|refine a6 a ?_|refine Fh ?_|(apply Ah.guard;rfl;rfl)|refine a7 ?_|(apply ei;rfl)|(apply cn;rfl)|(apply a8;rfl)|(intro _;try omega))
  all_goals first
   |omega
   |(rw[if_pos (by omega)];(refine aa ?_;try rfl);done)
   |(rw[if_neg (by omega)];(refine aa ?_;try rfl);done)
 ·rw[if_pos b]
  repeat' (first|refine a6 a ?_|refine go1 ?_|refine a7 ?_|(apply a8;rfl)|(intro _;try omega))
  all_goals first|omega|(refine aa ?_;try rfl)
theorem b8q(r:GI)(n:Int)(w:List Int):∃g f d c b a e,Uj r n w=(.agg [g,f,d,c,b,a],e):=by
 unfold Uj;split
 ·exact⟨_,_,_,_,_,_,_,rfl⟩
 ·split
  ·exact⟨_,_,_,_,_,_,_,rfl⟩
  ·exact⟨_,_,_,_,_,_,_,rfl⟩
noncomputable def b1s(r:GI)(w:List Int):FV×Int:=if Cb r≠0 then(LG,Cb r) else if Bg w≠0 then(LG,Bg w) else Uj r (r.first-w.length) (w++r.Em)
theorem a1s(r:GI)(w:List Int)(h:pI r)(g:w.length≤800):Ak env 173 [.agg (Enc.enc r),.lst 3 (cells w) w.length] (.DK [.p (b1s r w).1,.p (.int .i64 (b1s r w).2)]):=by
 have a:=Jh r h.1 h.2.1 h.2.2;have d:=fU w (by omega);unfold b1s;refine Ak.enter (Af (by decide)) Tryz.func173 rfl (by kernel_rfl) (by simp[Tryz.ntmps173]) ?_;by_cases b:Cb r=0
 ·obtain⟨-,-,j,i,-⟩:=ru b
  have c:=kC r (r.first-w.length) w r.Em (by omega) (by omega);obtain⟨q,o,n,m,l,k,e,f⟩:=b8q r (r.first-w.length) (w++r.Em);rw[f] at c ⊢;rw[b] at a ⊢;rw[if_neg (by decide)]
  repeat' (first|(refine eB 30 ?_;refine c7 (b6 29 rfl rfl) ?_)|apply Ad.assoc|apply ce|apply f9|apply kj|apply Ad.ret|apply Ah.nil|apply c9|refine a6 a ?_|refine a6 d ?_|refine a6 c ?_|(apply Aa.assign;rfl)|(apply Aa.move;rfl)|(apply lh;rfl;rfl;omega)|refine a7 ?_|(apply Aa.load;rfl;rfl)|(apply kb;rfl;rfl)|(apply e8;rfl;rfl;rfl)|(apply Aa.box;rfl;trivial)|(apply Aa.alloc;rfl)|refine d9 ?_|refine b7 ?_|refine bi ?_|(apply Aa.extract;rfl;rfl)|(apply cn;rfl)|(apply a8;rfl)|(intro _;try omega))
  all_goals first|(rw[if_pos (by assumption)];(refine aa ?_;try rfl);done)|(rw[if_neg (by assumption)];(refine aa ?_;try rfl);done)
 ·rw[if_pos b]
  repeat' (first|refine a6 a ?_|refine Fh ?_|refine a7 ?_|refine b7 ?_|(apply a8;rfl)|(intro _;try omega))
  all_goals first|omega|(refine aa ?_;try rfl)
noncomputable def b0p(r:GI)(f:Lm):FV×Int:=if Cb r≠0 then(LG,Cb r) else if(AV f r.CW).2≠0 then(LG,(AV f r.CW).2) else if NM (r.first-(AV f r.CW).1) then(.agg (Enc.enc { r with first:=r.first-(AV f r.CW).1,CW:=f }),0) else(LG,3)
theorem qN(r:GI)(f:Lm)(h:pI r):Ak env 174 [.agg (Enc.enc r),.agg (Enc.enc f)] (.DK [.p (b0p r f).1,.p (.int .i64 (b0p r f).2)]):=by
 have b:=Jh r h.1 h.2.1 h.2.2;have e:=NI f r.CW;have g:=a8x f r.CW;unfold b0p;generalize AV f r.CW=S at *;refine Ak.enter (Af (by decide)) Tryz.func174 rfl (by kernel_rfl) (by simp[Tryz.ntmps174]) ?_;by_cases d:Cb r=0
 ·obtain⟨-,-,j,i,-⟩:=ru d
  have a:=kF r (r.first-S.1) r.Em (by omega) (by omega);rw[d] at b ⊢;rw[if_neg (by decide)];by_cases c:NM (r.first-S.1)
  ·rw[if_pos c]
   rw[show Uj r (r.first-S.1) r.Em=(.agg (Enc.enc { r with first:=r.first-S.1,Em:=r.Em }),0) by unfold Uj;rw[if_neg (by omega),if_neg (bR.2 c)]] at a
   repeat' (first|(refine eB 36 ?_;refine c7 (b6 35 rfl rfl) ?_)|apply Ad.assoc|apply ce|apply f9|apply kj|apply Ad.ret|apply Ah.nil|apply c9|refine a6 b ?_|refine a6 e ?_|refine a6 a ?_|(apply Aa.assign;rfl)|(apply Aa.move;rfl)|(apply lh;rfl;rfl;omega)|refine a7 ?_|(apply Aa.load;rfl;rfl)|(apply e8;rfl;rfl;rfl)|(apply Aa.box;rfl;trivial)|(apply Aa.alloc;rfl)|refine d9 ?_|refine b7 ?_|refine bi ?_|(apply Aa.extract;rfl;rfl)|(apply cn;rfl)|(apply a8;rfl)|(intro _;try omega))
   all_goals first|omega|(rw[if_pos (by assumption)];(refine aa ?_;try rfl);done)|(rw[if_neg (by assumption)];(refine aa ?_;try rfl);done)
  ·rw[if_neg c]
   rw[show Uj r (r.first-S.1) r.Em=(LG,3) by unfold Uj;rw[if_neg (by omega),if_pos c]] at a
   repeat' (first|(refine eB 36 ?_;refine c7 (b6 35 rfl rfl) ?_)|apply Ad.assoc|apply ce|apply f9|apply kj|apply Ah.nil|apply c9|refine a6 b ?_|refine a6 e ?_|refine a6 a ?_|(apply Aa.assign;rfl)|(apply Aa.move;rfl)|(apply lh;rfl;rfl;omega)|refine a7 ?_|(apply Aa.load;rfl;rfl)|(apply e8;rfl;rfl;rfl)|(apply Aa.box;rfl;trivial)|(apply Aa.alloc;rfl)|refine d9 ?_|refine b7 ?_|refine bi ?_|(apply Aa.extract;rfl;rfl)|(apply ei;rfl)|(apply cn;rfl)|(apply a8;rfl)|(intro _;try omega))
   all_goals first|omega|(rw[if_pos (by assumption)];(refine aa ?_;try rfl);done)|(rw[if_neg (by assumption)];(refine aa ?_;try rfl);done)
 ·rw[if_pos d]
  repeat' (first|refine a6 b ?_|refine Fh ?_|refine a7 ?_|refine b7 ?_|(apply a8;rfl)|(intro _;try omega))
  all_goals first|omega|(refine aa ?_;try rfl)
attribute [local irreducible] Qr
noncomputable def e1q(r:GI)(n:Int):Int×Int:=if Qr r n≠0 then(0,Qr r n) else(r.first+n,0)
noncomputable def d9h(r:GI)(n:Int):Int×Int:=if Qr r n≠0 then(0,Qr r n) else(gi r.Em n.toNat,0)
noncomputable def d9q(r:GI)(w:List Int):FV×Int:=if Cb r≠0 then(LG,Cb r) else if Bg w≠0 then(LG,Bg w) else Uj r r.first (r.Em++w)
def d0v(l:List Int):Nat→Int
 |0=>0
 |k+1=>d0v l k+gi l k
noncomputable def d9w(r:GI):Int×Int:=if Cb r≠0 then(0,Cb r) else(d0v r.Em r.Em.length,0)
def UQ:List Lm:=[⟨8,1⟩,⟨4,1⟩,⟨16,1⟩,⟨2,1⟩,⟨8,3⟩,⟨8,5⟩,⟨4,3⟩,⟨1,1⟩,⟨32,1⟩,⟨16,3⟩,⟨16,5⟩,⟨32,3⟩,⟨8,7⟩,⟨2,3⟩,⟨1,2⟩,⟨64,1⟩]
theorem a9v(n:Nat)(b:n<256):Ak env 138 [.int .u8 (n:Int)] (.p (.agg (Enc.enc (gi UQ (n%16))))):=by
 refine Ak.enter (Af (by decide)) Tryz.func138 rfl (by kernel_rfl) (by simp[Tryz.ntmps138]) ?_;have a:n%16<16:=be _ (by decide)
 repeat' (first|(refine eB 22 ?_;refine c7 (b6 19 rfl rfl) ?_)|apply ce|apply Ad.ret|apply Ah.nil|apply c9|(apply dl (l:=UQ) (i:=n%16);rfl;rfl;rfl;exact a;rfl)|(apply Aa.move;rfl)|(apply kA;rfl;rfl;omega;omega)|(apply Aa.load;rfl;rfl)|(apply Aa.alloc;rfl)|refine d9 ?_|refine b7 ?_|refine bi ?_|fail)
 all_goals(refine aa ?_;try rfl)
theorem yF(CW first:Int)(a:Nat)(e:a≤1000):Ak env 170 [.int .i64 CW,.int .i64 first,.int .i64 (a:Int)] (.p (.agg (Enc.enc (⟨[82,111,119],[79,112,101,110],⟨CW,1⟩,first,List.replicate a 1⟩:GI)))):=by
 refine Ak.enter (Af (by decide)) Tryz.func170 rfl (by kernel_rfl) (by simp[Tryz.ntmps170]) ?_
 repeat' (first|refine Fh ?_|refine b7 ?_|fail)
 refine cb (jw 1 5 3 rfl rfl) ?_;refine eD (fun k:Nat=>[(2,.p (.int .i64 (a:Int))),(6,.ref 0 0),(7,.ref 1 0),(8,.p (.int .i64 (k:Int)))]) (fun k=>[(2,.vec 3 (cells (List.replicate k (1:Int))) (List.replicate k (1:Int)).length true),(1,.box 188 [.p (.str ⟨#[82,111,119]⟩),.p (.str ⟨#[79,112,101,110]⟩),.p (.int .i64 CW),.p (.int .i64 1),.p (.int .i64 first),.vec 2 (List.replicate k (1:Int)).length 0 (List.replicate k (1:Int)).length]),(0,.box 188 [.p (.str ⟨#[]⟩),.p (.str ⟨#[]⟩),.p (.int .i64 0),.p (.int .i64 0),.p (.int .i64 0),.p (.val (.slice none 0 0))])]) 3 (fun k=>k≤a) (fun k=>a-k) 0 (by omega) (by omega) ⟨by omega,?_,?_⟩ ?_
 ·exact Dh
 ·exact DT
 intro k f;have b:(List.replicate k (1:Int)).length=k:=bS;have c:List.replicate (k+1) (1:Int)=List.replicate k 1++[1]:=gk;have d:(List.replicate (k+1) (1:Int)).length=(List.replicate k (1:Int)).length+1:=by rw[c];simp
 repeat' (first|(refine Ad.at 6 ?_;refine cb (e9 1 5 rfl rfl rfl) ?_;first|apply ce|apply da)|refine d7 ?_|refine go0 ?_|apply ce|apply Ad.region|refine bi ?_|(apply a8;rfl)|(intro _;try omega))
 ·refine Aj.normal ⟨k+1,by omega,by omega,⟨by omega,?_,?_⟩⟩
  ·exact Dh
  ·rw[d,c];exact DT
 ·obtain rfl:k=a:=by omega
  (refine aa ?_;try rfl)
end Go.Proofs.YthlffjlbidibdaaGreatDoor
namespace Go.Proofs.YthlffjlbidibdaaGreatDoor
open Go Go.Am Go.Vm
attribute [local irreducible] Aa Ah Ai Ad AL Ak Bf BK Bj Aj Vm.Done Bv AP
theorem U1(d:Dx r.name)(c:Dx r.JX)(b:pOk r.CW)(f:-256≤r.first∧r.first≤256)(e:0<r.Em.length∧r.Em.length≤128)(a:okW r.Em):Cb r=0:=by
 unfold Cb;rw[if_neg (fun h=>h.elim (fun h=>h d) (fun h=>h c)),if_neg (fun h=>h (TS.2 b)),if_neg (by omega),if_neg (by omega),if_neg (by omega)];exact if_pos a
theorem yR:Dx [82,111,119]:=by
 refine⟨by decide,by decide,by decide,fun i b a=>?_⟩;have:i=1∨i=2:=by grind
 rcases this with rfl|rfl<;>exact .inl (by decide)
theorem X0:Dx [79,112,101,110]:=by
 refine⟨by decide,by decide,by decide,fun i b a=>?_⟩;have:i=1∨i=2∨i=3:=by grind
 rcases this with rfl|rfl|rfl<;>exact .inl (by decide)
theorem KG(n:Nat)(h:¬ jV x):okW (List.replicate n x):=fun i a=>by
 have:gi (List.replicate n x) i=x:=by
  simp only[List.length_replicate] at a;simp[gi,List.getElem?_replicate,a]
 grind
theorem a4s(e:okW a)(d:okW b):okW (a++b):=fun i c=>by
 rw[ar] at c;rcases aq i a.length with h|h
 ·have:gi (a++b) i=gi a i:=by simp[gi,List.getElem?_append_left h]
  rw[this];exact e i h
 ·have:gi (a++b) i=gi b (i-a.length):=by simp[gi,List.getElem?_append_right h]
  rw[this];exact d _ (by omega)
def Ui(f first:Int)(n:Nat):GI:=⟨[82,111,119],[79,112,101,110],⟨f,1⟩,first,List.replicate n 1⟩
theorem a4r(a:pOk ⟨f,1⟩)(b:-256≤first∧first≤256)(c:0<n∧n≤128):Cb (Ui f first n)=0 :=
 U1 yR X0 a b (by simp only[Ui,List.length_replicate];omega) (KG n (by decide))
theorem a7s:AV ⟨4,1⟩ ⟨8,1⟩=(12,0) :=by decide
theorem b4b:AV ⟨16,1⟩ ⟨8,1⟩=(-12,0) :=by decide
theorem a2b{n:Int}(h:Cb r=0)(a:0≤n∧n<r.Em.length):Qr r n=0:=by
 unfold Qr;omega
theorem d1v:((Ui 8 36 61).Em.length:Int)=61 :=by decide
theorem a9t:a2o (Ui 8 36 61) 48=(12,true,0):=by
 have a:=a4r (f:=8) (first:=36) (n:=61) (by decide +kernel) (by omega) (by omega);unfold a2o;rw[if_neg (fun b=>b a),d1v,if_neg (by decide)];rfl
theorem a9e:a1g (Ui 4 36 61) 12=(60,true,0):=by
 have b:=a4r (f:=4) (first:=36) (n:=61) (by decide +kernel) (by omega) (by omega);have a:Qr (Ui 4 36 61) 12=0:=a2b b (by simp[Ui]);unfold a1g;rw[if_neg (fun c=>c a),show AV (Ui 4 36 61).CW ⟨8,1⟩=(12,0) from a7s,if_neg (by decide)];rfl
def Sl:GI:=⟨[82,111,119],[79,112,101,110],⟨8,1⟩,24,List.replicate 12 0++List.replicate 61 1⟩
theorem b2a:b1s (Ui 8 36 61) (List.replicate 12 0)=(.agg (Enc.enc Sl),0):=by
 have c:=a4r (f:=8) (first:=36) (n:=61) (by decide +kernel) (by omega) (by omega);have b:Bg (List.replicate 12 0)=0:=if_pos (KG 12 (by decide));unfold b1s;rw[if_neg (fun a=>a c),if_neg (fun a=>a b)];rfl
theorem b2l:Cb Sl=0:=U1 yR X0 (by decide +kernel) (by decide) (by simp[Sl]) (a4s (KG 12 (by decide)) (KG 61 (by decide)))
theorem a8j:b0p Sl ⟨16,1⟩=(.agg (Enc.enc { Sl with first:=36,CW:=⟨16,1⟩ }),0):=by
 unfold b0p;rw[if_neg (fun a=>a b2l),show AV ⟨16,1⟩ Sl.CW=(-12,0) from b4b,if_neg (by decide),if_pos (by decide)];rfl
attribute [local irreducible] Cb Bg shz AV Qr a2o a1g b1s b0p
theorem rJ:Ak env 137 [] (.p (.bool true)):=by
 have d:=yF 8 36 61 (by decide);have c:=yF 4 36 61 (by decide);have rl:∀f n,pI (Ui f n 61):=fun f n=>by unfold pI Ui;simp
 have b:=uX (Ui 8 36 61) 48 (rl _ _);rw[a9t] at b;have s1:=kD (Ui 4 36 61) 12 (rl _ _) (fun _=>by simp[Ui]) (by rw[show AV (Ui 4 36 61).CW ⟨8,1⟩=(12,0) from a7s];decide);rw[a9e] at s1;have b1:=a1s (Ui 8 36 61) (List.replicate 12 0) (rl _ _) (by simp);rw[b2a] at b1;have a:=qN Sl ⟨16,1⟩ (by unfold pI Sl;simp);rw[a8j] at a;refine Ak.enter (Af (by decide)) Tryz.func137 rfl (by kernel_rfl) (by simp[Tryz.ntmps137]) ?_
 repeat' (first|(refine mc 28 ?_;refine i6 (b6 27 rfl rfl) ?_)|apply ce|apply da|apply Ad.ret|apply Ah.nil|apply Ai.nil|apply c9|(apply Ai.bar;decide +kernel)|apply Ai.quiet|(apply Ah.take;rfl;rfl)|refine a6 d ?_|refine a6 c ?_|refine a6 b ?_|refine a6 s1 ?_|refine a6 b1 ?_|refine a6 a ?_|(apply ll 12 (0:Int);rfl;rfl;rfl;rfl;rfl;rfl;rfl;decide;decide;decide;rfl)|(apply Aa.assign;rfl)|(apply Aa.move;rfl)|refine a7 ?_|(apply Aa.load;rfl;rfl)|(apply lk;rfl;rfl)|(apply kb;rfl;rfl)|(apply e8;rfl;rfl;rfl)|(apply Aa.alloc;rfl)|refine d9 ?_|refine b7 ?_|(apply Aa.extract;rfl;rfl))
 all_goals(refine aa ?_;try rfl)
end Go.Proofs.YthlffjlbidibdaaGreatDoor
namespace Go.Proofs.YthlffjlbidibdaaGreatDoor
open Go Go.Am Go.Vm
attribute [local irreducible] Aa Ah Ai Ad AL Ak Bf BK Bj Aj Vm.Done Bv AP
instance encStr:Enc (List UInt8):={ default:=[],enc:=fun s=>[.str (bs s)],size:=1,len:=fun _=>rfl }
structure Ig where
 JX:Nat
 CW:Nat
 first:Int
 pipes:Nat
 Em:List Nat
def Ig.enc(x:Ig):List FV:=[.int .u8 (x.JX:Int),.int .u8 (x.CW:Int),.int .i8 x.first,.int .u8 (x.pipes:Int),.int .u8 ((gi x.Em 0:Nat):Int),.int .u8 ((gi x.Em 1:Nat):Int),.int .u8 ((gi x.Em 2:Nat):Int),.int .u8 ((gi x.Em 3:Nat):Int),.int .u8 ((gi x.Em 4:Nat):Int)]
structure Ig.Ok(x:Ig):Prop where
 JX:x.JX<256
 CW:x.CW<256
 first:-128≤x.first∧x.first≤127
 pipes:x.pipes<256
 Em:∀i,gi x.Em i<256
def WZ:List (List UInt8):=[[79,112,101,110],[70,108,117,116,101],[82,101,101,100]]
def JI(x:Ig):Nat→List Int
 |0=>[]
 |k+1=>JI x k++[((gi x.Em (k%5):Nat):Int)]
theorem G6(x:Ig):∀k,(JI x k).length=k
 |0=>rfl
 |k+1=>by simp[JI,G6 x k]
def Yb(x:Ig)(i:Int):GI:=⟨[82,UInt8.ofNat (48+i%10).toNat],gi WZ (x.JX%3),gi UQ (x.CW%16),x.first,JI x (1+x.pipes%25)⟩
theorem b1j(x:Ig)(c:x.Ok)(i:Int)(s:0≤i∧i≤1000):Ak env 93 [.agg x.enc,.int .i64 i] (.p (.agg (Enc.enc (Yb x i)))):=by
 obtain⟨y,g,w,u,f⟩:=c;have e:=a9v x.CW g;have a:x.JX%3<3:=be _ (by decide);refine Ak.enter (Af (by decide)) Tryz.func93 rfl (by kernel_rfl) (by simp[Tryz.ntmps93]) ?_
 repeat' (first|(refine mc 18 ?_;refine i6 (b6 14 rfl rfl) ?_)|apply Ad.assoc|apply ce|apply da|apply jt|apply Ah.nil|apply Ai.nil|apply c9|(apply Ai.bar;decide +kernel)|apply Ai.quiet|refine a6 e ?_|(apply kl;rfl;rfl;rfl;rfl;rfl;omega)|(apply dl (l:=WZ) (i:=x.JX%3);rfl;rfl;rfl;exact a;rfl)|(apply Aa.assign;rfl)|(apply Aa.move;rfl)|(apply jl;rfl;rfl;omega)|(apply kA;rfl;rfl;omega;omega)|(apply Aa.load;rfl;rfl)|(apply e8;rfl;rfl;rfl)|(apply Aa.box;rfl;trivial)|(apply Aa.alloc;rfl)|refine d9 ?_|refine b7 ?_|refine bi ?_|refine j0 ?_|refine eR ?_|(apply kc;rfl;rfl;rfl;rfl;omega))
 refine cb (jw 4 5 3 rfl rfl) ?_;refine eD (fun k:Nat=>[(2,.ref 0 0),(4,.ref 1 0),(5,.ref 4 0),(6,.p (.int .i64 (k:Int)))]) (fun k=>[(5,.vec 3 (cells (JI x k)) (JI x k).length true),(4,.box 188 [.p (.str (bs [82,UInt8.ofNat (48+i%10).toNat])),.p (.str (bs (gi WZ (x.JX%3)))),.p (.int .i64 (gi UQ (x.CW%16)).num),.p (.int .i64 (gi UQ (x.CW%16)).den),.p (.int .i64 x.first),.vec 5 (JI x k).length 0 (JI x k).length]),(1,.box 188 [.p (.str ⟨#[]⟩),.p (.str ⟨#[]⟩),.p (.int .i64 0),.p (.int .i64 0),.p (.int .i64 0),.p (.val (.slice none 0 0))]),(0,.box 197 (x.enc.map .p))]) 6 (fun k=>k≤1+x.pipes%25) (fun k=>1+x.pipes%25-k) 0 (by omega) (by omega) ⟨by omega,?_,?_⟩ ?_
 ·exact Dh
 ·exact DT
 intro k r;have q:=G6 x k;have o:=f (k%5);have b:JI x (k+1)=JI x k++[((gi x.Em (k%5):Nat):Int)]:=rfl;have j:(JI x (k+1)).length=(JI x k).length+1:=by rw[b];simp
 have d:(x.enc.map PV.p)[4+((k:Int)%5).toNat*1]?=some (.p (.int .u8 ((gi x.Em (k%5):Nat):Int))):=by
  have m:((k:Int)%5).toNat=k%5:=by omega
  rw[m];have:k%5<5:=be _ (by decide);generalize k%5=n at this
  match n,this with
  |0,_=>rfl
  |1,_=>rfl
  |2,_=>rfl
  |3,_=>rfl
  |4,_=>rfl
 repeat' (first|(refine Ad.at 6 ?_;refine cb (e9 4 5 rfl rfl rfl) ?_;first|apply ce|apply da)|(apply pj;rfl;rfl;rfl;exact d)|(apply mz;rfl;rfl;rfl;rfl;rfl;omega)|refine d7 ?_|refine go2 ?_|apply ce|apply Ad.region|apply ka|refine a7 ?_|refine bi ?_|refine eR ?_|(apply a8;rfl)|(intro _;try omega))
 ·refine Aj.normal ⟨k+1,by omega,by omega,⟨by omega,?_,?_⟩⟩
  ·exact Dh
  ·rw[j,b];exact DT
 ·obtain rfl:k=1+x.pipes%25:=by omega
  refine aa ?_;rfl
structure Pul where
 rank:Nat
 CW:Nat
 kind:Nat
 at_:Nat
instance:Enc Pul:={ default:=⟨0,0,0,0⟩,enc:=fun x=>[.int .u8 (x.rank:Int),.int .u8 (x.CW:Int),.int .u8 (x.kind:Int),.int .u8 (x.at_:Int)],size:=4,len:=fun _=>rfl }
structure Pul.Ok(x:Pul):Prop where
 rank:x.rank<256
 CW:x.CW<256
 kind:x.kind<256
 at_:x.at_<256
structure Brd where
 low:Nat
 keys:Nat
 FY:Bool
 stops:List Pul
instance:Enc Brd:={ default:=⟨0,0,false,[]⟩,enc:=fun x=>[.int .u8 (x.low:Int),.int .u8 (x.keys:Int),.bool x.FY,.lst 203 (cells x.stops) x.stops.length],size:=4,len:=fun _=>rfl }
structure Brd.Ok(x:Brd):Prop where
 low:x.low<256
 keys:x.keys<256
 stops:x.stops.length<9223372036854775808
 all:∀i,i<x.stops.length→(gi x.stops i).Ok
structure Lnk where
 Yp:Nat
 tgt:Nat
 shift:Int
 through:Bool
instance:Enc Lnk:={ default:=⟨0,0,0,false⟩,enc:=fun x=>[.int .u8 (x.Yp:Int),.int .u8 (x.tgt:Int),.int .i8 x.shift,.bool x.through],size:=4,len:=fun _=>rfl }
structure Lnk.Ok(x:Lnk):Prop where
 Yp:x.Yp<256
 tgt:x.tgt<256
 shift:-128≤x.shift∧x.shift≤127
instance d0j:Enc Ig:={ default:=⟨0,0,0,0,[]⟩,enc:=Ig.enc,size:=9,len:=fun _=>rfl }
structure OPl where
 ranks:List Ig
 Ae:List Brd
 links:List Lnk
def OPl.enc(x:OPl):List FV:=[.lst 197 (cells x.ranks) x.ranks.length,.lst 133 (cells x.Ae) x.Ae.length,.lst 205 (cells x.links) x.links.length]
structure OPl.Ok(x:OPl):Prop where
 ranks:∀i,i<x.ranks.length→(gi x.ranks i).Ok
 Ae:∀i,i<x.Ae.length→(gi x.Ae i).Ok
 links:∀i,i<x.links.length→(gi x.links i).Ok
 nr:x.ranks.length<9223372036854775808
 nd:x.Ae.length<9223372036854775808
 nl:x.links.length<9223372036854775808
def UO:List Lm:=[⟨8,1⟩,⟨4,1⟩,⟨16,1⟩,⟨8,3⟩,⟨2,1⟩,⟨8,5⟩]
theorem a2c(n:Nat)(b:n<256):Ak env 139 [.int .u8 (n:Int)] (.p (.agg (Enc.enc (gi UO (n%6))))):=by
 refine Ak.enter (Af (by decide)) Tryz.func139 rfl (by kernel_rfl) (by simp[Tryz.ntmps139]) ?_;have a:n%6<6:=be _ (by decide)
 repeat' (first|(refine eB 12 ?_;refine c7 (b6 9 rfl rfl) ?_)|apply ce|apply Ad.ret|apply Ah.nil|apply c9|(apply dl (l:=UO) (i:=n%6);rfl;rfl;rfl;exact a;rfl)|(apply Aa.move;rfl)|(apply kA;rfl;rfl;omega;omega)|(apply Aa.load;rfl;rfl)|(apply Aa.alloc;rfl)|refine d9 ?_|refine b7 ?_|refine bi ?_|fail)
 all_goals(refine aa ?_;try rfl)
theorem b5t:∀n,n<6→pOk (gi UO n) :=by decide
theorem b2k:∀a,a<6→∀b,b<16→(AV (gi UO a) (gi UQ b)).2=0∧-100≤(AV (gi UO a) (gi UQ b)).1∧(AV (gi UO a) (gi UQ b)).1≤100 :=by decide
structure a7b(rk:List GI):Prop where
 len:0<rk.length∧rk.length≤3
 ok:∀i,i<rk.length→Cb (gi rk i)=0∧∃b,b<16∧(gi rk i).CW=gi UQ b
attribute [local irreducible] Cb Bg AV
theorem c3n(e:List GI)(f k:Int)(x:Pul)(i:Nat)(J:a7b e)(O:0≤f∧f≤k∧k≤127)(W:x.Ok)(Y:i≤9) :
 ∃s:Stp,Ak env 94 [.lst 188 (cells e) e.length,.agg [.int .i64 f,.int .i64 k],.agg (Enc.enc x),.int .i64 (i:Int)] (.p (.agg (Enc.enc s)))∧s.name=Pm 83 i∧D5 e f k s=0∧mV s∧∃a,a<6∧s.CW=gi UO a:=by
 obtain⟨M,B⟩:=J;obtain⟨x1,T,x3,x4⟩:=W;obtain⟨n,C⟩:∃n,n=x.rank%e.length:=⟨_,rfl⟩
 have o:n<e.length:=by rw[C];exact be _ M.1
 obtain⟨m,I⟩:∃m,m=(n+1)%e.length:=⟨_,rfl⟩
 have z:m<e.length:=by rw[I];exact be _ M.1
 have u:=a2c x.CW T;have w:x.CW%6<6:=be _ (by decide);have f6:=b5t _ w;obtain⟨-,b,hb,eb⟩:=B n o;obtain⟨-,c,N,ec⟩:=B m z;have s1:=b2k _ w b hb;have s2:=b2k _ w c N;rw[← eb] at s1;rw[← ec] at s2;generalize hF:gi UO (x.CW%6)=F at *;have y:=NI F (gi e n).CW;have H:=NI F (gi e m).CW;rw[s1.1] at y;rw[s2.1] at H;generalize (AV F (gi e n).CW).1=sh at *;generalize (AV F (gi e m).CW).1=so at *;have R:yV e f k=0:=lq (fun i h=>(B i h).1) (by omega) O;have q:∀g:List Seg,(0<g.length∧g.length≤12)→O5 e.length f k g 0=0→D5 e f k ⟨Pm 83 i,F,g⟩=0:=fun g S P=>by
  unfold D5 c0h;rw[if_neg (fun h=>h R),if_neg (fun h=>h (a3p (by decide) (by omega))),if_neg (fun h=>h (TS.2 f6)),if_neg (by simp only;omega),if_neg (by simp only;omega)];exact P
 have sm:∀g:List Seg,g.length<1000000→(∀j,j<g.length→(gi g j).draws.length<1000000)→mV ⟨Pm 83 i,F,g⟩:=fun g S P=>⟨by simp[Pm],S,fun j r=>⟨P j r⟩⟩
 have A:YR e.length ⟨n,sh⟩:=⟨⟨by simp only;omega,by simp only;omega⟩,⟨by simp only;omega,by simp only;omega⟩⟩
 have K:(n:Int)=(x.rank:Int)%e.length:=by rw[C];simp
 obtain⟨d,hd⟩:∃d:Nat,(d:Int)=(x.at_:Int)%(k-f+1):=⟨((x.at_:Int)%(k-f+1)).toNat,by have:=bE (x.at_:Int) (show k-f+1≠0 by omega);omega⟩
 have Z:(d:Int)≤k-f:=by have:=bz (x.at_:Int) (show 0<k-f+1 by omega);omega
 have X:x.kind%6<6:=be _ (by decide);rw[I,C] at H z;rw[C] at y o;have L:(m:Int)=((x.rank:Int)%e.length+1)%e.length:=by rw[I,C];simp
 have hAt:f+(d:Int)=f+(x.at_:Int)%(k-f+1):=by omega
 rw[K] at A;have G:YR e.length ⟨((x.rank:Int)%e.length+1)%e.length,so⟩:=by
  rw[← L];exact⟨⟨by simp only;omega,by simp only;rw[I];have:=be (n+1) M.1;omega⟩,⟨by simp only;omega,by simp only;omega⟩⟩
 have E:YR e.length ⟨(x.rank:Int)%e.length,sh-12⟩:=⟨A.rank,⟨by simp only;omega,by simp only;omega⟩⟩
 have Q:YR e.length ⟨(x.rank:Int)%e.length,sh+7⟩:=⟨A.rank,⟨by simp only;omega,by simp only;omega⟩⟩
 by_cases k2:x.kind%6=2
 ·refine⟨⟨Pm 83 i,F,[⟨f,k,[⟨(x.rank:Int)%e.length,sh⟩,⟨(x.rank:Int)%e.length,sh+7⟩]⟩]⟩,?_,rfl,?_,?_,_,w,hF.symm⟩
  ·refine Ak.enter (Af (by decide)) Tryz.func94 rfl (by kernel_rfl) (by simp[Tryz.ntmps94]) ?_
   repeat' (first|(refine Ad.at 5 ?_;refine cb (b6 13 rfl rfl) ?_;first|apply ce|apply da)|(refine Ad.at 22 ?_;refine cb (e9 4 3 rfl rfl rfl) ?_;first|apply ce|apply da)|(refine eB 88 ?_;refine c7 (b6 87 rfl rfl) ?_)|apply Ad.assoc|apply ce|apply da|apply Ad.region|apply jt|apply BK.normal|apply Bj.normal|apply Ad.ret|apply Ah.nil|apply Ai.nil|apply c9|(apply Ai.bar;decide +kernel)|apply Ai.quiet|refine a6 u ?_|refine a6 y ?_|(apply kl;rfl;rfl;rfl;rfl;rfl;omega)|(apply dl (l:=e) (i:=x.rank%e.length);rfl;rfl;rfl;exact o;rfl)|(apply Aa.assign;rfl)|(apply Aa.move;rfl)|(apply jl;rfl;rfl;omega)|(apply lh;rfl;rfl;omega)|(apply kA;rfl;rfl;omega;omega)|refine a7 ?_|(apply Aa.load;rfl;rfl)|(apply kb;rfl;rfl)|(apply e8;rfl;rfl;rfl)|(apply nh;rfl;rfl)|(apply Aa.box;rfl;trivial)|(apply Aa.alloc;rfl)|refine d9 ?_|refine b7 ?_|refine bi ?_|refine j0 ?_|(apply Aa.extract;rfl;rfl)|refine eR ?_|(apply kc;rfl;rfl;rfl;rfl;omega)|(apply c8;rfl)|(intro _;try omega))
   all_goals first|omega|contradiction|(refine aa ?_;rfl)
  ·exact q _ (by simp) (Md ⟨bj _,O.2.1,bj _⟩ (b8g A Q (fun h=>by have:=congrArg Drw.shift h;simp only at this;omega)))
  ·refine sm _ (by simp) (fun j r=>?_)
   obtain rfl:j=0:=by simp at r;omega
   show 2<1000000;decide
 by_cases k5:x.kind%6=5
 ·refine⟨⟨Pm 83 i,F,[⟨f+(x.at_:Int)%(k-f+1),k,[⟨(x.rank:Int)%e.length,sh⟩]⟩]⟩,?_,rfl,?_,?_,_,w,hF.symm⟩
  ·refine Ak.enter (Af (by decide)) Tryz.func94 rfl (by kernel_rfl) (by simp[Tryz.ntmps94]) ?_
   repeat' (first|(refine Ad.at 5 ?_;refine cb (b6 13 rfl rfl) ?_;first|apply ce|apply da)|(refine Ad.at 22 ?_;refine cb (e9 4 3 rfl rfl rfl) ?_;first|apply ce|apply da)|refine a6 u ?_|refine a6 y ?_|(apply dl (l:=e) (i:=x.rank%e.length);rfl;rfl;rfl;exact o;rfl)|refine go2 ?_|apply ce|apply da|apply Ad.region|(apply kl;rfl;rfl;rfl;rfl;rfl;omega)|refine a7 ?_|refine b7 ?_|refine bi ?_|refine j0 ?_|refine eR ?_|(apply kc;rfl;rfl;rfl;rfl;omega)|(apply a8;rfl)|(apply c8;rfl)|(intro _;try omega))
   all_goals first|omega|contradiction|(refine aa ?_;rfl)
  ·exact q _ (by simp) (Md ⟨by simp only;omega,by simp only;omega,bj _⟩ (JK A))
  ·refine sm _ (by simp) (fun j r=>?_)
   obtain rfl:j=0:=by simp at r;omega
   show 1<1000000;decide
 by_cases V:x.kind%6<2
 ·refine⟨⟨Pm 83 i,F,[⟨f,k,[⟨(x.rank:Int)%e.length,sh⟩]⟩]⟩,?_,rfl,?_,?_,_,w,hF.symm⟩
  ·refine Ak.enter (Af (by decide)) Tryz.func94 rfl (by kernel_rfl) (by simp[Tryz.ntmps94]) ?_
   repeat' (first|(refine Ad.at 5 ?_;refine cb (b6 13 rfl rfl) ?_;first|apply ce|apply da)|(refine Ad.at 22 ?_;refine cb (e9 4 3 rfl rfl rfl) ?_;first|apply ce|apply da)|refine a6 u ?_|refine a6 y ?_|(apply dl (l:=e) (i:=x.rank%e.length);rfl;rfl;rfl;exact o;rfl)|refine go2 ?_|apply ce|apply da|apply Ad.region|(apply kl;rfl;rfl;rfl;rfl;rfl;omega)|refine a7 ?_|refine b7 ?_|refine bi ?_|refine j0 ?_|refine eR ?_|(apply kc;rfl;rfl;rfl;rfl;omega)|(apply a8;rfl)|(apply c8;rfl)|(intro _;try omega))
   all_goals first|omega|contradiction|(refine aa ?_;rfl)
  ·exact q _ (by simp) (Md ⟨bj _,O.2.1,bj _⟩ (JK A))
  ·refine sm _ (by simp) (fun j r=>?_)
   obtain rfl:j=0:=by simp at r;omega
   show 1<1000000;decide
 by_cases hd0:d=0
 ·by_cases U:x.kind%6=3
  ·refine⟨⟨Pm 83 i,F,[⟨f+(x.at_:Int)%(k-f+1),k,[⟨((x.rank:Int)%e.length+1)%e.length,so⟩]⟩]⟩,?_,rfl,?_,?_,_,w,hF.symm⟩
   ·refine Ak.enter (Af (by decide)) Tryz.func94 rfl (by kernel_rfl) (by simp[Tryz.ntmps94]) ?_
    repeat' (first|(refine Ad.at 17 ?_;refine cb (Ap.trans (b6 15 rfl rfl) (jw 4 3 258 rfl rfl)) ?_;first|apply ce|apply da)|(refine Ad.at 5 ?_;refine cb (b6 13 rfl rfl) ?_;first|apply ce|apply da)|(refine Ad.at 22 ?_;refine cb (e9 4 3 rfl rfl rfl) ?_;first|apply ce|apply da)|refine d7 (l:=([]:List Seg)) (a:=⟨f+(x.at_:Int)%(k-f+1),k,[⟨((x.rank:Int)%e.length+1)%e.length,so⟩]⟩) ?_|refine a6 u ?_|refine a6 y ?_|refine a6 H ?_|(apply dl (l:=e) (i:=x.rank%e.length);rfl;rfl;rfl;exact o;rfl)|(apply dl (l:=e) (i:=(x.rank%e.length+1)%e.length);rfl;rfl;rfl;exact z;rfl)|refine go2 ?_|apply ce|apply da|apply Ad.region|(apply kl;rfl;rfl;rfl;rfl;rfl;omega)|refine a7 ?_|refine b7 ?_|refine bi ?_|refine j0 ?_|refine eR ?_|(apply kc;rfl;rfl;rfl;rfl;omega)|(apply a8;rfl)|(apply c8;rfl)|(intro _;try omega))
    all_goals first|omega|contradiction|(refine aa ?_;rfl)
   ·exact q _ (by simp) (Md ⟨by simp only;omega,by simp only;omega,bj _⟩ (JK G))
   ·refine sm _ (by simp) (fun j r=>?_)
    obtain rfl:j=0:=by simp at r;omega
    show 1<1000000;decide
  ·refine⟨⟨Pm 83 i,F,[⟨f+(x.at_:Int)%(k-f+1),k,[⟨(x.rank:Int)%e.length,sh-12⟩]⟩]⟩,?_,rfl,?_,?_,_,w,hF.symm⟩
   ·refine Ak.enter (Af (by decide)) Tryz.func94 rfl (by kernel_rfl) (by simp[Tryz.ntmps94]) ?_
    repeat' (first|(refine Ad.at 17 ?_;refine cb (Ap.trans (b6 15 rfl rfl) (jw 4 3 258 rfl rfl)) ?_;first|apply ce|apply da)|(refine Ad.at 5 ?_;refine cb (b6 13 rfl rfl) ?_;first|apply ce|apply da)|(refine Ad.at 22 ?_;refine cb (e9 4 3 rfl rfl rfl) ?_;first|apply ce|apply da)|refine d7 (l:=([]:List Seg)) (a:=⟨f+(x.at_:Int)%(k-f+1),k,[⟨(x.rank:Int)%e.length,sh-12⟩]⟩) ?_|refine a6 u ?_|refine a6 y ?_|(apply dl (l:=e) (i:=x.rank%e.length);rfl;rfl;rfl;exact o;rfl)|refine go2 ?_|apply ce|apply da|apply Ad.region|(apply kl;rfl;rfl;rfl;rfl;rfl;omega)|refine a7 ?_|refine b7 ?_|refine bi ?_|refine j0 ?_|refine eR ?_|(apply kc;rfl;rfl;rfl;rfl;omega)|(apply a8;rfl)|(apply c8;rfl)|(intro _;try omega))
    all_goals first|omega|contradiction|(refine aa ?_;rfl)
   ·exact q _ (by simp) (Md ⟨by simp only;omega,by simp only;omega,bj _⟩ (JK E))
   ·refine sm _ (by simp) (fun j r=>?_)
    obtain rfl:j=0:=by simp at r;omega
    show 1<1000000;decide
 ·by_cases U:x.kind%6=3
  ·refine⟨⟨Pm 83 i,F,[⟨f,f+(x.at_:Int)%(k-f+1)-1,[⟨(x.rank:Int)%e.length,sh⟩]⟩,⟨f+(x.at_:Int)%(k-f+1),k,[⟨((x.rank:Int)%e.length+1)%e.length,so⟩]⟩]⟩,?_,rfl,?_,?_,_,w,hF.symm⟩
   ·refine Ak.enter (Af (by decide)) Tryz.func94 rfl (by kernel_rfl) (by simp[Tryz.ntmps94]) ?_
    repeat' (first|(refine Ad.at 17 ?_;refine cb (Ap.trans (b6 15 rfl rfl) (jw 4 3 258 rfl rfl)) ?_;first|apply ce|apply da)|(refine Ad.at 5 ?_;refine cb (b6 13 rfl rfl) ?_;first|apply ce|apply da)|(refine Ad.at 22 ?_;refine cb (e9 4 3 rfl rfl rfl) ?_;first|apply ce|apply da)|refine d7 (l:=([]:List Seg)) (a:=⟨f,f+(x.at_:Int)%(k-f+1)-1,[⟨(x.rank:Int)%e.length,sh⟩]⟩) ?_|refine d7 (l:=([⟨f,f+(x.at_:Int)%(k-f+1)-1,[⟨(x.rank:Int)%e.length,sh⟩]⟩]:List Seg)) (a:=⟨f+(x.at_:Int)%(k-f+1),k,[⟨((x.rank:Int)%e.length+1)%e.length,so⟩]⟩) ?_|refine a6 u ?_|refine a6 y ?_|refine a6 H ?_|(apply dl (l:=e) (i:=x.rank%e.length);rfl;rfl;rfl;exact o;rfl)|(apply dl (l:=e) (i:=(x.rank%e.length+1)%e.length);rfl;rfl;rfl;exact z;rfl)|refine go2 ?_|apply ce|apply da|apply Ad.region|(apply kl;rfl;rfl;rfl;rfl;rfl;omega)|refine a7 ?_|refine b7 ?_|refine bi ?_|refine j0 ?_|refine eR ?_|(apply kc;rfl;rfl;rfl;rfl;omega)|(apply a8;rfl)|(apply c8;rfl)|(intro _;try omega))
    all_goals first|omega|contradiction|(refine aa ?_;rfl)
   ·exact q _ (by simp) (lU ⟨bj _,by simp only;omega,by simp only;omega,by simp only;omega,bj _⟩ (JK A) (JK G))
   ·refine sm _ (by simp) (fun j r=>?_)
    have:j=0∨j=1:=by simp at r;omega
    rcases this with rfl|rfl
    ·show 1<1000000
     decide
    ·show 1<1000000
     decide
  ·refine⟨⟨Pm 83 i,F,[⟨f,f+(x.at_:Int)%(k-f+1)-1,[⟨(x.rank:Int)%e.length,sh⟩]⟩,⟨f+(x.at_:Int)%(k-f+1),k,[⟨(x.rank:Int)%e.length,sh-12⟩]⟩]⟩,?_,rfl,?_,?_,_,w,hF.symm⟩
   ·refine Ak.enter (Af (by decide)) Tryz.func94 rfl (by kernel_rfl) (by simp[Tryz.ntmps94]) ?_
    repeat' (first|(refine Ad.at 17 ?_;refine cb (Ap.trans (b6 15 rfl rfl) (jw 4 3 258 rfl rfl)) ?_;first|apply ce|apply da)|(refine Ad.at 5 ?_;refine cb (b6 13 rfl rfl) ?_;first|apply ce|apply da)|(refine Ad.at 22 ?_;refine cb (e9 4 3 rfl rfl rfl) ?_;first|apply ce|apply da)|refine d7 (l:=([]:List Seg)) (a:=⟨f,f+(x.at_:Int)%(k-f+1)-1,[⟨(x.rank:Int)%e.length,sh⟩]⟩) ?_|refine d7 (l:=([⟨f,f+(x.at_:Int)%(k-f+1)-1,[⟨(x.rank:Int)%e.length,sh⟩]⟩]:List Seg)) (a:=⟨f+(x.at_:Int)%(k-f+1),k,[⟨(x.rank:Int)%e.length,sh-12⟩]⟩) ?_|refine a6 u ?_|refine a6 y ?_|(apply dl (l:=e) (i:=x.rank%e.length);rfl;rfl;rfl;exact o;rfl)|refine go2 ?_|apply ce|apply da|apply Ad.region|(apply kl;rfl;rfl;rfl;rfl;rfl;omega)|refine a7 ?_|refine b7 ?_|refine bi ?_|refine j0 ?_|refine eR ?_|(apply kc;rfl;rfl;rfl;rfl;omega)|(apply a8;rfl)|(apply c8;rfl)|(intro _;try omega))
    all_goals first|omega|contradiction|(refine aa ?_;rfl)
   ·exact q _ (by simp) (lU ⟨bj _,by simp only;omega,by simp only;omega,by simp only;omega,bj _⟩ (JK A) (JK E))
   ·refine sm _ (by simp) (fun j r=>?_)
    have:j=0∨j=1:=by simp at r;omega
    rcases this with rfl|rfl
    ·show 1<1000000
     decide
    ·show 1<1000000
     decide
end Go.Proofs.YthlffjlbidibdaaGreatDoor
namespace Go.Proofs.YthlffjlbidibdaaGreatDoor
open Go Go.Am Go.Vm
attribute [local irreducible] Aa Ah Ai Ad AL Ak Bf BK Bj Aj Vm.Done Bv AP
noncomputable instance (a b:Lm):Decidable (a=b):=Classical.propDecidable _
noncomputable instance (a b:GI):Decidable (a=b):=Classical.propDecidable _
def lnC(i c:Nat):Prop:=uz c∨(i≠0∧(c=95∨(48≤c∧c≤57)))
def d1g(r:GI):Prop:=(r.Em.length≤30∨r.Em.length=129)∧r.name.length≤40∧r.JX.length≤40
instance (r:GI):Decidable (d1g r):=by unfold d1g;infer_instance
attribute [local irreducible] Cb Bg shz AV Qr
noncomputable def e0w(r:GI)(f p:Int):FV×Int:=if Qr r f≠0 then(LG,Qr r f) else if p<1∨p>r.Em.length-f then(LG,3) else Uj r (r.first+f) ((r.Em.drop f.toNat).take ((f+p).toNat-f.toNat))
noncomputable def e1e(a b:GI):FV×Int:=if Cb a≠0 then(LG,Cb a) else if Cb b≠0 then(LG,Cb b) else if¬ (a.JX=b.JX∧a.CW=b.CW) then(LG,14) else if b.first≠a.first+a.Em.length then(LG,6) else Uj a a.first (a.Em++b.Em)
theorem b7z:∀n,n<3→Dx (gi WZ n)
 |0,_=>X0
 |1,_=>by
  refine⟨by decide,by decide,by decide,fun i b a=>?_⟩;have:i=1∨i=2∨i=3∨i=4:=by simp[WZ,gi] at a;omega
  rcases this with rfl|rfl|rfl|rfl<;>exact .inl (by decide)
 |2,_=>by
  refine⟨by decide,by decide,by decide,fun i b a=>?_⟩;have:i=1∨i=2∨i=3:=by simp[WZ,gi] at a;omega
  rcases this with rfl|rfl|rfl<;>exact .inl (by decide)
theorem c2s:∀n,n<16→pOk (gi UQ n) :=by decide
theorem wW(x:Ig):∀k i,i<k→gi (JI x k) i=((gi x.Em (i%5):Nat):Int)
 |k+1,i,h=>by
  rcases aq i k with h1|h1
  ·have:gi (JI x (k+1)) i=gi (JI x k) i:=by simp[JI,gi,List.getElem?_append_left (show i<(JI x k).length by rw[G6];omega)]
   rw[this];exact wW x k i h1
  ·obtain rfl:i=k:=by omega
   simp[JI,gi,List.getElem?_append_right (show(JI x i).length≤i by rw[G6];simp),G6]
theorem c7i(x:Ig)(c:x.Ok)(i:Int)(g:0≤i):Cb (Yb x i)=0:=by
 obtain⟨m,l,k,h,d⟩:=c;refine U1 ⟨by simp[Yb],by simp[Yb],(show uz (82:UInt8).toNat by decide),fun j f b=>?_⟩ (b7z _ (be _ (by decide))) (c2s _ (be _ (by decide))) ⟨by simp only[Yb];omega,by simp only[Yb];omega⟩ ⟨by simp only[Yb,G6];omega,by simp only[Yb,G6];omega⟩ (fun j a=>?_)
 ·obtain rfl:j=1:=by simp[Yb] at b;omega
  have e:(gi (Yb x i).name 1).toNat=(48+i%10).toNat:=by
   show(UInt8.ofNat (48+i%10).toNat).toNat=_;rw[UInt8.toNat_ofNat'];omega
  right;omega
 ·simp only[Yb,G6] at a ⊢
  rw[wW x _ j a];have:=d (j%5);unfold jV;omega
theorem c5o{α:Type}[Inhabited α]{l:List α}{P:α→Prop}(h:∀a∈l,P a){n:Nat}(b:n<l.length):P (gi l n):=by
 simp only[gi,List.getElem?_eq_getElem b,Option.getD_some];grind
theorem c3k(x:Ig)(i:Int):pI (Yb x i):=by
 refine⟨by simp[Yb],?_,by simp only[Yb,G6];omega⟩;exact cK (c5o (P:=fun l=>l.length≤5) (by decide) (show x.JX%3<WZ.length from be _ (by decide))) (by decide)
theorem b9i(x:Ig)(i:Int):(Yb x i).Em.length≤25:=by simp only[Yb,G6];omega
def d7v:GI:=⟨[],[],⟨0,0⟩,0,[]⟩
end Go.Proofs.YthlffjlbidibdaaGreatDoor
namespace Go.Proofs.YthlffjlbidibdaaGreatDoor
open Go Go.Am Go.Vm
attribute [local irreducible] Aa Ah Ai Ad AL Ak Bf BK Bj Aj Vm.Done Bv AP
def bY(x:OPl):Prop:=(1≤x.ranks.length∧x.ranks.length≤3)∧(1≤x.Ae.length∧x.Ae.length≤3)∧x.links.length≤3∧∀i,i<x.Ae.length→(gi x.Ae i).stops.length≤3
noncomputable instance (x:OPl):Decidable (bY x):=Classical.propDecidable _
theorem b0a(x:OPl)(c:x.Ok):Ak env 16 [.agg x.enc] (.p (.bool (decide (bY x)))):=by
 have b1:=c.nr;have b2:=c.nd;have b3:=c.nl;refine Ak.enter (Af (by decide)) Tryz.func16 rfl (by kernel_rfl) (by simp[Tryz.ntmps16]) ?_;by_cases d:(1≤x.ranks.length∧x.ranks.length≤3)∧(1≤x.Ae.length∧x.Ae.length≤3)∧x.links.length≤3
 case neg =>
  rw[decide_eq_false (fun h=>d ⟨h.1,h.2.1,h.2.2.1⟩)]
  repeat' (first|refine Fj ?_|(apply Ah.guard;rfl;rfl)|(apply ei;rfl)|(apply a8;rfl)|(intro _;try omega))
  all_goals first|omega|(refine aa ?_;try rfl)
 repeat' (first|refine Fj ?_|(apply Ah.guard;rfl;rfl)|(apply a8;rfl)|(intro _;try omega))
 all_goals try omega
 refine eD (fun k:Nat=>[(1,.ref 0 0),(3,.p (.int .i64 (k:Int)))]) (fun _=>[(0,.box 26 (x.enc.map .p))]) 1 (fun k=>k≤x.Ae.length∧∀i,i<k→(gi x.Ae i).stops.length≤3) (fun k=>x.Ae.length-k) 0 (by omega) ⟨by omega,fun i e=>by omega⟩ ⟨by omega,?_,?_⟩ ?_
 ·exact Dh
 ·exact DT
 rintro k ⟨j,a⟩;by_cases b:k<x.Ae.length
 ·have g:=(c.Ae k b).stops
  by_cases f:(gi x.Ae k).stops.length≤3
  ·repeat' (first|refine b9 ?_|refine Fj ?_|(apply a8;rfl)|(apply c8;rfl)|(intro _;try omega))
   all_goals try omega
   refine Aj.normal ⟨k+1,⟨by omega,fun i e=>?_⟩,by omega,⟨by omega,?_,?_⟩⟩
   ·rcases aq i k with h|h
    ·exact a i h
    ·obtain rfl:i=k:=by omega
     exact f
   ·exact Dh
   ·exact DT
  ·rw[decide_eq_false (fun h=>f (h.2.2.2 k b))]
   repeat' (first|refine b9 ?_|refine Fj ?_|(apply a8;rfl)|(apply c8;rfl)|(intro _;try omega))
   all_goals first|omega|(refine aa ?_;try rfl)
 ·rw[decide_eq_true (show bY x from⟨d.1,d.2.1,d.2.2,fun i e=>a i (by omega)⟩)]
  repeat' (first|refine Fj ?_|(apply a8;rfl)|(intro _;try omega))
  all_goals first|omega|(refine aa ?_;try rfl)
def b6n(rk:List GI)(lo hi:Int)(x:Pul)(i:Nat)(s:Stp):Prop :=
 Ak env 94 [.lst 188 (cells rk) rk.length,.agg [.int .i64 lo,.int .i64 hi],.agg (Enc.enc x),.int .i64 (i:Int)] (.p (.agg (Enc.enc s)))∧s.name=Pm 83 i∧D5 rk lo hi s=0∧mV s∧∃a,a<6∧s.CW=gi UO a
noncomputable def VN(rk:List GI)(lo hi:Int)(x:Pul)(i:Nat):Stp:=Classical.epsilon (h:=⟨default⟩) (b6n rk lo hi x i)
theorem iL(c:List GI)(a b:Int)(x:Pul)(i:Nat)(d:a7b c)(g:0≤a∧a≤b∧b≤127)(f:x.Ok)(e:i≤9):b6n c a b x i (VN c a b x i) :=
 Classical.epsilon_spec (c3n c a b x i d g f e)
def FD(l:List Ig):Nat→List GI
 |0=>[]
 |k+1=>FD l k++[Yb (gi l k) (k:Int)]
noncomputable def Hy(rk:List GI)(lo hi:Int)(l:List Pul):Nat→List Stp
 |0=>[]
 |k+1=>Hy rk lo hi l k++[VN rk lo hi (gi l k) k]
def FH(b:Brd):Int:=36+(b.low:Int)%12
def Gg(b:Brd):Int:=FH b+(b.keys:Int)%9
noncomputable def yh(rk:List GI)(b:Brd)(k:Nat):tV:=⟨Pm 68 (k:Int),b.FY,FH b,Gg b,Hy rk (FH b) (Gg b) b.stops b.stops.length⟩
noncomputable def Iq(rk:List GI)(l:List Brd):Nat→List tV
 |0=>[]
 |k+1=>Iq rk l k++[yh rk (gi l k) k]
def ZN(n:Nat)(c:Lnk)(k:Nat):uD:=⟨Pm 67 (k:Int),(c.Yp:Int)%n,(c.tgt:Int)%n,if(c.Yp:Int)%n=(c.tgt:Int)%n∧c.shift.tmod 25=0 then 12 else c.shift.tmod 25,c.through⟩
def Gh(n:Nat)(l:List Lnk):Nat→List uD
 |0=>[]
 |k+1=>Gh n l k++[ZN n (gi l k) k]
theorem J5(l:List Ig):∀k,(FD l k).length=k
 |0=>rfl
 |k+1=>by simp[FD,J5 l k]
theorem I7(a:List GI)(b c:Int)(l:List Pul):∀k,(Hy a b c l k).length=k
 |0=>rfl
 |k+1=>by simp[Hy,I7 a b c l k]
theorem O6(a:List GI)(l:List Brd):∀k,(Iq a l k).length=k
 |0=>rfl
 |k+1=>by simp[Iq,O6 a l k]
theorem TU(n:Nat)(l:List Lnk):∀k,(Gh n l k).length=k
 |0=>rfl
 |k+1=>by simp[Gh,TU n l k]
noncomputable def bP(x:OPl):FZ:=⟨[79,114,103,97,110],FD x.ranks x.ranks.length,Iq (FD x.ranks x.ranks.length) x.Ae x.Ae.length,Gh x.Ae.length x.links x.links.length⟩
theorem I4{α:Type}[Inhabited α]{l:List α}{a:α}{i:Nat}:gi (l++[a]) i=if i<l.length then gi l i else if i=l.length then a else default:=by
 by_cases h:i<l.length
 ·rw[if_pos h];simp[gi,List.getElem?_append_left h]
 ·rw[if_neg h]
  by_cases b:i=l.length
  ·rw[if_pos b,b];simp[gi]
  ·rw[if_neg b];simp[gi,List.getElem?_append_right (show l.length≤i by omega),show¬ i-l.length=0 by omega]
theorem Yc(l:List Ig):∀k i,i<k→gi (FD l k) i=Yb (gi l i) (i:Int)
 |k+1,i,h=>by
  simp only[FD,I4,J5];by_cases a:i<k
  ·rw[if_pos a];exact Yc l k i a
  grind
theorem oL(h:∀i,i<l.length→(gi l i).Ok)(b:0<l.length∧l.length≤3):a7b (FD l l.length):=by
 refine⟨by rw[J5];omega,fun i a=>?_⟩;rw[J5] at a;rw[Yc l _ i a];exact⟨c7i _ (h i a) _ (by omega),(gi l i).CW%16,be _ (by decide),rfl⟩
attribute [local irreducible] Yb VN
def e2c(a b c:PV):Vm.HB:=.box 40 [.p (.str (bs [79,114,103,97,110])),a,b,c]
def e0m:Vm.HB:=.box 40 [.p (.str ⟨#[]⟩),.p (.val (.slice none 0 0)),.p (.val (.slice none 0 0)),.p (.val (.slice none 0 0))]
theorem zf(x:OPl)(e:x.Ok)(J:bY x):Ak env 49 [.agg x.enc] (.p (.agg (Enc.enc (bP x)))):=by
 obtain⟨I,H,G,m⟩:=J;have K:=oL e.ranks (by omega);refine Ak.enter (Af (by decide)) Tryz.func49 rfl (by kernel_rfl) (by simp[Tryz.ntmps49]) ?_
 repeat' (first|refine Fh ?_|refine b7 ?_|fail)
 refine cb (jw 2 1 188 rfl rfl) ?_;refine eD (fun k:Nat=>[(1,.ref 0 0),(2,.ref 1 0),(3,.ref 2 0),(4,.p (.int .i64 (k:Int)))]) (fun k=>[(3,.vec 188 (cells (FD x.ranks k)) (FD x.ranks k).length true),(2,.box 40 [.p (.str (bs [79,114,103,97,110])),.vec 3 (FD x.ranks k).length 0 (FD x.ranks k).length,.p (.val (.slice none 0 0)),.p (.val (.slice none 0 0))]),(1,.box 40 [.p (.str ⟨#[]⟩),.p (.val (.slice none 0 0)),.p (.val (.slice none 0 0)),.p (.val (.slice none 0 0))]),(0,.box 26 (x.enc.map .p))]) 4 (fun k=>k≤x.ranks.length) (fun k=>x.ranks.length-k) 0 (by omega) (by omega) ⟨by omega,?_,?_⟩ ?_
 ·exact Dh
 ·exact DT
 intro k g;have f:=J5 x.ranks k;have c:FD x.ranks (k+1)=FD x.ranks k++[Yb (gi x.ranks k) (k:Int)]:=rfl;have d:(FD x.ranks (k+1)).length=(FD x.ranks k).length+1:=by rw[c];simp
 by_cases b:k<x.ranks.length
 ·have F:=b1j (gi x.ranks k) (e.ranks k b) k ⟨by omega,by omega⟩
  repeat' (first|refine a6 F ?_|refine d7 (a:=Yb (gi x.ranks k) (k:Int)) ?_|refine b9 ?_|refine KP ?_|refine a7 ?_|refine bi ?_|(apply a8;rfl)|(intro _;try omega))
  all_goals try omega
  refine Aj.normal ⟨k+1,by omega,by omega,⟨by omega,?_,?_⟩⟩
  ·exact Dh
  ·rw[d,c];exact DT
 obtain rfl:k=x.ranks.length:=by omega
 clear c d f b g;have o:bP x=⟨[79,114,103,97,110],FD x.ranks x.ranks.length,Iq (FD x.ranks x.ranks.length) x.Ae x.Ae.length,Gh x.Ae.length x.links x.links.length⟩:=rfl;rw[o];generalize FD x.ranks x.ranks.length=R at *;clear o
 repeat' (first|(refine Ad.at 6 ?_;refine cb (Ap.trans (e9 2 1 rfl rfl rfl) (Ap.trans (jw 2 2 114 rfl rfl) (jw 2 3 207 rfl rfl))) ?_;first|apply ce|apply da)|refine go0 ?_|apply ce|(apply a8;rfl)|(intro _;try omega))
 all_goals try omega
 refine eD (fun k:Nat=>[(1,.ref 0 0),(2,.ref 1 0),(3,.ref 2 0),(5,.p (.int .i64 (k:Int)))]) (fun k=>[(5,.vec 207 [] 0 true),(4,.vec 114 (cells (Iq R x.Ae k)) (Iq R x.Ae k).length true),(2,.box 40 [.p (.str (bs [79,114,103,97,110])),.p (.lst 188 (cells R) R.length),.vec 4 (Iq R x.Ae k).length 0 (Iq R x.Ae k).length,.vec 5 0 0 0]),(1,.box 40 [.p (.str ⟨#[]⟩),.p (.val (.slice none 0 0)),.p (.val (.slice none 0 0)),.p (.val (.slice none 0 0))]),(0,.box 26 (x.enc.map .p))]) 6 (fun k=>k≤x.Ae.length) (fun k=>x.Ae.length-k) 0 (by omega) (by omega) ⟨by omega,?_,?_⟩ ?_
 ·exact Dh
 ·exact DT
 intro k g;have f:=O6 R x.Ae k;have c:Iq R x.Ae (k+1)=Iq R x.Ae k++[yh R (gi x.Ae k) k]:=rfl;have d:(Iq R x.Ae (k+1)).length=(Iq R x.Ae k).length+1:=by rw[c];simp
 by_cases b:k<x.Ae.length
 ·obtain⟨z,y,w,u⟩:=e.Ae k b
  have s:=m k b;have O:yh R (gi x.Ae k) k=⟨Pm 68 (k:Int),(gi x.Ae k).FY,FH (gi x.Ae k),Gg (gi x.Ae k),Hy R (FH (gi x.Ae k)) (Gg (gi x.Ae k)) (gi x.Ae k).stops (gi x.Ae k).stops.length⟩:=rfl;have i:0≤FH (gi x.Ae k)∧FH (gi x.Ae k)≤Gg (gi x.Ae k)∧Gg (gi x.Ae k)≤127:=by unfold Gg FH;omega
  have B:(gi x.Ae k).stops.length≤3:=s
  repeat' (first|refine b9 ?_|refine KP ?_|(apply kl;rfl;rfl;rfl;rfl;rfl;omega)|refine a7 ?_|refine b7 ?_|refine bi ?_|refine j0 ?_|refine eR ?_|(apply kc;rfl;rfl;rfl;rfl;omega)|(apply a8;rfl)|(intro _;try omega))
  all_goals try omega
  refine cb (jw 8 4 200 rfl rfl) ?_;refine eD (fun j:Nat=>[(1,.ref 0 0),(2,.ref 1 0),(3,.ref 2 0),(5,.p (.int .i64 (k:Int))),(6,.ref 6 0),(7,.p (.int .i64 (FH (gi x.Ae k)))),(8,.ref 8 0),(9,.p (.int .i64 (j:Int)))]) (fun j=>[(9,.vec 200 (cells (Hy R (FH (gi x.Ae k)) (Gg (gi x.Ae k)) (gi x.Ae k).stops j)) (Hy R (FH (gi x.Ae k)) (Gg (gi x.Ae k)) (gi x.Ae k).stops j).length true),(8,.box 114 [.p (.str (bs (Pm 68 (k:Int)))),.p (.bool (gi x.Ae k).FY),.p (.int .i64 (FH (gi x.Ae k))),.p (.int .i64 (Gg (gi x.Ae k))),.vec 9 (Hy R (FH (gi x.Ae k)) (Gg (gi x.Ae k)) (gi x.Ae k).stops j).length 0 (Hy R (FH (gi x.Ae k)) (Gg (gi x.Ae k)) (gi x.Ae k).stops j).length]),(6,.box 133 ((Enc.enc (gi x.Ae k)).map .p)),(5,.vec 207 [] 0 true),(4,.vec 114 (cells (Iq R x.Ae k)) (Iq R x.Ae k).length true),(2,.box 40 [.p (.str (bs [79,114,103,97,110])),.p (.lst 188 (cells R) R.length),.vec 4 (Iq R x.Ae k).length 0 (Iq R x.Ae k).length,.vec 5 0 0 0]),(1,.box 40 [.p (.str ⟨#[]⟩),.p (.val (.slice none 0 0)),.p (.val (.slice none 0 0)),.p (.val (.slice none 0 0))]),(0,.box 26 (x.enc.map .p))]) 10 (fun j=>j≤(gi x.Ae k).stops.length) (fun j=>(gi x.Ae k).stops.length-j) 0 (by omega) (by omega) ⟨by omega,?_,?_⟩ ?_
  ·exact Dh
  ·exact DT
  intro j N;have M:=I7 R (FH (gi x.Ae k)) (Gg (gi x.Ae k)) (gi x.Ae k).stops j;have n:Hy R (FH (gi x.Ae k)) (Gg (gi x.Ae k)) (gi x.Ae k).stops (j+1)=Hy R (FH (gi x.Ae k)) (Gg (gi x.Ae k)) (gi x.Ae k).stops j++[VN R (FH (gi x.Ae k)) (Gg (gi x.Ae k)) (gi (gi x.Ae k).stops j) j]:=rfl;have A:(Hy R (FH (gi x.Ae k)) (Gg (gi x.Ae k)) (gi x.Ae k).stops (j+1)).length=(Hy R (FH (gi x.Ae k)) (Gg (gi x.Ae k)) (gi x.Ae k).stops j).length+1:=by rw[n];simp
  by_cases l:j<(gi x.Ae k).stops.length
  ·have C:=(iL R (FH (gi x.Ae k)) (Gg (gi x.Ae k)) (gi (gi x.Ae k).stops j) j K i (u j l) (by omega)).1
   repeat' (first|refine a6 C ?_|refine d7 (a:=VN R (FH (gi x.Ae k)) (Gg (gi x.Ae k)) (gi (gi x.Ae k).stops j) j) ?_|refine b9 ?_|refine KP ?_|refine a7 ?_|refine bi ?_|(apply a8;rfl)|(intro _;try omega))
   all_goals try omega
   refine Aj.normal ⟨j+1,by omega,by omega,⟨by omega,?_,?_⟩⟩
   ·exact Dh
   ·rw[A,n];exact DT
  obtain rfl:j=(gi x.Ae k).stops.length:=by omega
  repeat' (first|(refine oA 16 ?_;refine cb (e9 8 4 rfl rfl rfl) ?_;first|apply Ad.region|apply ka)|refine d7 (a:=yh R (gi x.Ae k) k) ?_|refine go2 ?_|apply ce|apply Ad.region|refine a7 ?_|refine bi ?_|(apply a8;rfl)|(intro _;try omega))
  all_goals try omega
  refine Aj.normal ⟨k+1,by omega,by omega,⟨by omega,?_,?_⟩⟩
  ·exact Dh
  ·rw[d,c];exact DT
 obtain rfl:k=x.Ae.length:=by omega
 clear c d f b g;have L:=O6 R x.Ae x.Ae.length;generalize Iq R x.Ae x.Ae.length=D at *
 repeat' (first|(refine Ad.at 17 ?_;refine cb (e9 2 2 rfl rfl rfl) ?_;first|apply ce|apply da)|refine go0 ?_|apply ce|(apply a8;rfl)|(intro _;try omega))
 all_goals try omega
 refine eD (fun k:Nat=>[(1,.ref 0 0),(2,.ref 1 0),(3,.ref 2 0),(10,.p (.int .i64 (x.Ae.length:Int))),(11,.p (.int .i64 (k:Int)))]) (fun k=>[(5,.vec 207 (cells (Gh x.Ae.length x.links k)) (Gh x.Ae.length x.links k).length true),(2,.box 40 [.p (.str (bs [79,114,103,97,110])),.p (.lst 188 (cells R) R.length),.p (.lst 114 (cells D) D.length),.vec 5 (Gh x.Ae.length x.links k).length 0 (Gh x.Ae.length x.links k).length]),(1,.box 40 [.p (.str ⟨#[]⟩),.p (.val (.slice none 0 0)),.p (.val (.slice none 0 0)),.p (.val (.slice none 0 0))]),(0,.box 26 (x.enc.map .p))]) 6 (fun k=>k≤x.links.length) (fun k=>x.links.length-k) 0 (by omega) (by omega) ⟨by omega,?_,?_⟩ ?_
 ·exact Dh
 ·exact DT
 intro k g;have f:=TU x.Ae.length x.links k;by_cases b:k<x.links.length
 ·obtain⟨z,y,w⟩:=e.links k b
  have E:((gi x.links k).Yp:Int)%x.Ae.length≥0:=bE _ (by omega);by_cases r:((gi x.links k).Yp:Int)%x.Ae.length=((gi x.links k).tgt:Int)%x.Ae.length
  ·by_cases q:(gi x.links k).shift.tmod 25=0
   ·have c:Gh x.Ae.length x.links (k+1)=Gh x.Ae.length x.links k++[(⟨Pm 67 (k:Int),((gi x.links k).Yp:Int)%x.Ae.length,((gi x.links k).tgt:Int)%x.Ae.length,12,(gi x.links k).through⟩:uD)]:=by
     show Gh x.Ae.length x.links k++[ZN x.Ae.length (gi x.links k) k]=_;unfold ZN;rw[if_pos ⟨r,q⟩]
    have d:(Gh x.Ae.length x.links (k+1)).length=(Gh x.Ae.length x.links k).length+1:=by rw[c];simp
    repeat' (first|refine d7 (a:=(⟨Pm 67 (k:Int),((gi x.links k).Yp:Int)%x.Ae.length,((gi x.links k).tgt:Int)%x.Ae.length,12,(gi x.links k).through⟩:uD)) ?_|refine b9 ?_|refine KP ?_|(apply Ah.guard;rfl;rfl)|(apply kl;rfl;rfl;rfl;rfl;rfl;omega)|refine a7 ?_|refine b7 ?_|refine bi ?_|refine j0 ?_|refine eR ?_|(apply kc;rfl;rfl;rfl;rfl;omega)|(apply a8;rfl)|(intro _;try omega))
    all_goals try omega
    refine Aj.normal ⟨k+1,by omega,by omega,⟨by omega,?_,?_⟩⟩
    ·exact Dh
    ·rw[d,c];exact DT
   ·have c:Gh x.Ae.length x.links (k+1)=Gh x.Ae.length x.links k++[(⟨Pm 67 (k:Int),((gi x.links k).Yp:Int)%x.Ae.length,((gi x.links k).tgt:Int)%x.Ae.length,(gi x.links k).shift.tmod 25,(gi x.links k).through⟩:uD)]:=by
     show Gh x.Ae.length x.links k++[ZN x.Ae.length (gi x.links k) k]=_;unfold ZN;rw[if_neg (fun h=>q h.2)]
    have d:(Gh x.Ae.length x.links (k+1)).length=(Gh x.Ae.length x.links k).length+1:=by rw[c];simp
    repeat' (first|refine d7 (a:=(⟨Pm 67 (k:Int),((gi x.links k).Yp:Int)%x.Ae.length,((gi x.links k).tgt:Int)%x.Ae.length,(gi x.links k).shift.tmod 25,(gi x.links k).through⟩:uD)) ?_|refine b9 ?_|refine KP ?_|(apply Ah.guard;rfl;rfl)|(apply kl;rfl;rfl;rfl;rfl;rfl;omega)|refine a7 ?_|refine b7 ?_|refine bi ?_|refine j0 ?_|refine eR ?_|(apply kc;rfl;rfl;rfl;rfl;omega)|(apply a8;rfl)|(intro _;try omega))
    all_goals try omega
    refine Aj.normal ⟨k+1,by omega,by omega,⟨by omega,?_,?_⟩⟩
    ·exact Dh
    ·rw[d,c];exact DT
  ·have c:Gh x.Ae.length x.links (k+1)=Gh x.Ae.length x.links k++[(⟨Pm 67 (k:Int),((gi x.links k).Yp:Int)%x.Ae.length,((gi x.links k).tgt:Int)%x.Ae.length,(gi x.links k).shift.tmod 25,(gi x.links k).through⟩:uD)]:=by
    show Gh x.Ae.length x.links k++[ZN x.Ae.length (gi x.links k) k]=_;unfold ZN;rw[if_neg (fun h=>r h.1)]
   have d:(Gh x.Ae.length x.links (k+1)).length=(Gh x.Ae.length x.links k).length+1:=by rw[c];simp
   repeat' (first|refine d7 (a:=(⟨Pm 67 (k:Int),((gi x.links k).Yp:Int)%x.Ae.length,((gi x.links k).tgt:Int)%x.Ae.length,(gi x.links k).shift.tmod 25,(gi x.links k).through⟩:uD)) ?_|refine b9 ?_|refine KP ?_|(apply Ah.guard;rfl;rfl)|(apply kl;rfl;rfl;rfl;rfl;rfl;omega)|refine a7 ?_|refine b7 ?_|refine bi ?_|refine j0 ?_|refine eR ?_|(apply kc;rfl;rfl;rfl;rfl;omega)|(apply cn;rfl)|(apply a8;rfl)|(intro _;try omega))
   all_goals try omega
   refine Aj.normal ⟨k+1,by omega,by omega,⟨by omega,?_,?_⟩⟩
   ·exact Dh
   ·rw[d,c];exact DT
 obtain rfl:k=x.links.length:=by omega
 repeat' (first|(refine Ad.at 26 ?_;refine cb (e9 2 3 rfl rfl rfl) ?_;first|apply ce|apply da)|refine go0 ?_|apply ce|(apply a8;rfl)|(intro _;try omega))
 all_goals first|omega|(refine aa ?_;rfl)
attribute [local irreducible] Cb Bg AV
theorem xE(a:List GI)(l:List Brd):∀k i,i<k→gi (Iq a l k) i=yh a (gi l i) i
 |k+1,i,h=>by
  simp only[Iq,I4,O6];by_cases b:i<k
  ·rw[if_pos b];exact xE a l k i b
  grind
theorem nJ(a:List GI)(b c:Int)(l:List Pul):∀k i,i<k→gi (Hy a b c l k) i=VN a b c (gi l i) i
 |k+1,i,h=>by
  simp only[Hy,I4,I7];by_cases d:i<k
  ·rw[if_pos d];exact nJ a b c l k i d
  grind
theorem wU(n:Nat)(l:List Lnk):∀k i,i<k→gi (Gh n l k) i=ZN n (gi l i) i
 |k+1,i,h=>by
  simp only[Gh,I4,TU];by_cases a:i<k
  ·rw[if_pos a];exact wU n l k i a
  grind
theorem b3x(b:Brd):0≤FH b∧FH b≤Gg b∧Gg b≤127:=by unfold Gg FH;omega
structure a1r(o:FZ):Prop where
 sm:RD o
 ranks:1≤o.ranks.length∧o.ranks.length≤3
 Ae:1≤o.Ae.length∧o.Ae.length≤3
 IW:o.IW.length≤3
 stops:∀i,i<o.Ae.length→(gi o.Ae i).stops.length≤3
 rk:a7b o.ranks
 dv:∀i,i<o.Ae.length→0≤(gi o.Ae i).lo∧(gi o.Ae i).lo≤(gi o.Ae i).hi∧(gi o.Ae i).hi≤127
 dn:∀i,i<o.Ae.length→(gi o.Ae i).name=Pm 68 i
 st:∀i,i<o.Ae.length→∀j,j<(gi o.Ae i).stops.length→D5 o.ranks (gi o.Ae i).lo (gi o.Ae i).hi (gi (gi o.Ae i).stops j)=0∧(gi (gi o.Ae i).stops j).name=Pm 83 j∧∃a,a<6∧(gi (gi o.Ae i).stops j).CW=gi UO a
 cp:∀i,i<o.IW.length→b5w o.Ae.length (gi o.IW i)∧(gi o.IW i).name=Pm 67 i
 rn:∀i,i<o.ranks.length→(gi o.ranks i).name=Pm 82 i
 nm:o.name=[79,114,103,97,110]
theorem c0s(n:Nat)(c:Lnk)(k:Nat)(f:1≤n)(d:c.Ok)(b:k<10):b5w n (ZN n c k):=by
 obtain⟨i,h,g⟩:=d;have m1:=bE (c.Yp:Int) (show(n:Int)≠0 by omega);have m2:=bz (c.Yp:Int) (show 0<(n:Int) by omega);have m3:=bE (c.tgt:Int) (show(n:Int)≠0 by omega);have a:=bz (c.tgt:Int) (show 0<(n:Int) by omega);refine⟨a3p (by decide) b,⟨m1,m2⟩,⟨m3,a⟩,?_,?_⟩
 ·have e:(ZN n c k).shift=if(c.Yp:Int)%n=(c.tgt:Int)%n∧c.shift.tmod 25=0 then 12 else c.shift.tmod 25:=rfl
  grind
 ·show¬ ((c.Yp:Int)%n=(c.tgt:Int)%n∧(if(c.Yp:Int)%n=(c.tgt:Int)%n∧c.shift.tmod 25=0 then(12:Int) else c.shift.tmod 25)=0)
  omega
theorem c7r(x:Ig)(i:Int):dJ (Yb x i):=by
 have h:=c3k x i;have w:=b9i x i;unfold Yb at h w ⊢;refine⟨by simp,?_,by omega⟩;have:(gi WZ (x.JX%3)).length≤5:=c5o (P:=fun l:List UInt8=>l.length≤5) (by decide) (show x.JX%3<WZ.length from be _ (by decide));grind
theorem b3s(x:Ig)(i:Nat)(a:i<10):(Yb x i).name=Pm 82 i:=by
 unfold Yb Pm;grind
theorem yY(x:OPl)(m:x.Ok)(u:bY x):a1r (bP x):=by
 obtain⟨s,r,q,e⟩:=u;have n:=oL m.ranks (by omega);have g:(bP x).ranks=FD x.ranks x.ranks.length:=rfl;have d:(bP x).Ae=Iq (FD x.ranks x.ranks.length) x.Ae x.Ae.length:=rfl;have l:(bP x).IW=Gh x.Ae.length x.links x.links.length:=rfl;have o:(bP x).name=[79,114,103,97,110]:=rfl;have rn:∀i,i<x.ranks.length→gi (FD x.ranks x.ranks.length) i=Yb (gi x.ranks i) (i:Int):=Yc _ _;generalize hRR:FD x.ranks x.ranks.length=R at *;have w:R.length=x.ranks.length:=by rw[← hRR,J5]
 have y:=O6 R x.Ae x.Ae.length;have z:=TU x.Ae.length x.links x.links.length;have dg:∀i,i<x.Ae.length→gi (Iq R x.Ae x.Ae.length) i=yh R (gi x.Ae i) i:=xE _ _ _;have p:∀i,i<x.links.length→gi (Gh x.Ae.length x.links x.links.length) i=ZN x.Ae.length (gi x.links i) i:=wU _ _ _;have h:∀b k,(yh R b k).stops=Hy R (FH b) (Gg b) b.stops b.stops.length:=fun _ _=>rfl
 have f:∀i,i<x.Ae.length→∀j,j<(gi x.Ae i).stops.length→gi (Hy R (FH (gi x.Ae i)) (Gg (gi x.Ae i)) (gi x.Ae i).stops (gi x.Ae i).stops.length) j=VN R (FH (gi x.Ae i)) (Gg (gi x.Ae i)) (gi (gi x.Ae i).stops j) j∧b6n R (FH (gi x.Ae i)) (Gg (gi x.Ae i)) (gi (gi x.Ae i).stops j) j (VN R (FH (gi x.Ae i)) (Gg (gi x.Ae i)) (gi (gi x.Ae i).stops j) j):=fun i a j c =>
  ⟨nJ _ _ _ _ _ _ c,iL R _ _ _ j n (b3x _) ((m.Ae i a).all j c) (by have:=e i a;omega)⟩
 refine⟨⟨by rw[o];simp,by rw[g];omega,by rw[d];omega,by rw[l];omega,fun i a=>?_,fun i a=>?_,fun i a=>?_⟩,by rw[g];omega,by rw[d];omega,by rw[l];omega,fun i a=>?_,by rw[g];exact n,fun i a=>?_,fun i a=>?_,fun i a j c=>?_,fun i a=>?_,fun i a=>?_,o⟩
 ·rw[g] at a ⊢;rw[rn i (by omega)];exact c7r _ _
 ·rw[d] at a ⊢;rw[dg i (by omega)]
  refine⟨by simp[yh,Pm],by rw[h,I7];have:=e i (by omega);omega,fun j c=>?_⟩;rw[h,I7] at c;rw[h,(f i (by omega) j c).1];exact(f i (by omega) j c).2.2.2.2.1
 ·rw[l] at a ⊢;rw[p i (by omega)];simp[ZN,Pm]
 ·rw[d] at a ⊢;rw[dg i (by omega),h,I7];exact e i (by omega)
 ·rw[d] at a ⊢;rw[dg i (by omega)];exact b3x _
 ·rw[d] at a ⊢;rw[dg i (by omega)];rfl
 ·rw[d] at a c ⊢;rw[dg i (by omega),h,I7] at c;rw[g,dg i (by omega),h,(f i (by omega) j c).1]
  exact⟨(f i (by omega) j c).2.2.2.1,(f i (by omega) j c).2.2.1,(f i (by omega) j c).2.2.2.2.2⟩
 ·rw[l] at a ⊢;rw[d,y,p i (by omega)]
  exact⟨c0s _ _ _ (by omega) (m.links i (by omega)) (by omega),rfl⟩
 ·rw[g] at a ⊢;rw[rn i (by omega)];exact b3s _ _ (by omega)
theorem c8s:Dx [79,114,103,97,110]:=by
 refine⟨by decide,by decide,by decide,fun i b a=>?_⟩;have:i=1∨i=2∨i=3∨i=4:=by simp at a;omega
 rcases this with rfl|rfl|rfl|rfl<;>exact .inl (by decide)
theorem a1r.ok(h:a1r o):Ur o=0:=by
 have n:=h.ranks;have p:=h.Ae;have q:=h.IW;unfold Ur;rw[if_neg (fun b=>b (h.nm▸c8s)),if_neg (by omega)];have k:QM o.ranks 0=0:=TY (fun i hi=>⟨(h.rk.ok i hi).1,pV (c:=82) (by omega) h.rn hi⟩) _ 0 rfl;rw[if_neg (fun b=>b k),if_neg (by omega),if_neg (by omega)];have l:GK o.ranks o.Ae 0=0:=PX (fun i hi=>by
  have s1:=h.stops i hi;refine⟨by rw[h.dn i hi];exact a3p (by decide) (by omega),pV (c:=68) (by omega) h.dn hi,?_⟩;unfold DU;rw[Tq (h.dv i hi),if_neg (fun h=>h rfl),if_neg (by omega)];exact Qj (fun j g=>⟨(h.st i hi j g).1,pV (c:=83) (by omega) (fun a f=>(h.st i hi a f).2.1) g⟩) _ 0 rfl) _ 0 rfl
 rw[if_neg (fun b=>b l)];unfold EF;rw[if_neg (by grind)];have m:Ug (o.Ae.map fun d=>⟨d.lo,d.hi⟩) 0=0:=Tt (fun i hi=>by
  rw[aL] at hi;have e:gi (o.Ae.map fun d=>(⟨d.lo,d.hi⟩:sU)) i=⟨(gi o.Ae i).lo,(gi o.Ae i).hi⟩:=by simp[gi,List.getElem?_eq_getElem hi]
  rw[e];exact Tq (h.dv i hi)) _ 0 rfl
 rw[if_neg (fun b=>b m),aL];exact PU (fun i hi=>⟨(h.cp i hi).1,pV (c:=67) (by omega) (fun a f=>(h.cp a f).2) hi⟩) _ 0 rfl
end Go.Proofs.YthlffjlbidibdaaGreatDoor
